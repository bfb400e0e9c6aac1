-- Written by a program of this session (the kit's print, some functions given by hand).
import Derived.Test.YtcjachhdoogbaaaPTx0
import Derived.Test.YtcjachhdoogbaaaPTx2
namespace Go.Proofs.Ytcjachhdoogbaaa.PT
open Go.RowKit Go.Proofs.YtcjachhdoogbaaaW.PrintWords Go.Proofs.YtcjachhdoogbaaaW.PrintLast Go.Proofs.YtcjachhdoogbaaaW.PrintMore
attribute [local go_sem] max2_int min2_int max_two min_two max_three min_three max_four min_four   -- for this text's walks alone
set_option linter.unusedVariables false
set_option linter.unusedSimpArgs false

abbrev x3q0 : Array Bool := #[false, false, false, false, false, false, false, false, false, false, false, false, false, false, false, false, false, false, false, false, false, false, false, false, false, false, false, false, false, false, false, false, false]
abbrev x3q1 : Array Bool := #[true, false, false, false, false, false, false, false, false, false, false, false, false, false, false, false, false, false, false, false, false, false, false, false, false, false, false, false, false, false, false, false, false]
abbrev x3q2 : Array Bool := #[true, true, false, false, false, false, false, false, false, false, false, false, false, false, false, false, false, false, false, false, false, false, false, false, false, false, false, false, false, false, false, false, false]
abbrev x3q3 : Array Bool := #[true, true, true, false, false, false, false, false, false, false, false, false, false, false, false, false, false, false, false, false, false, false, false, false, false, false, false, false, false, false, false, false, false]
abbrev x3q4 : Array Bool := #[true, true, true, true, false, false, false, false, false, false, false, false, false, false, false, false, false, false, false, false, false, false, false, false, false, false, false, false, false, false, false, false, false]
abbrev x3q5 : Array Bool := #[true, true, true, true, true, false, false, false, false, false, false, false, false, false, false, false, false, false, false, false, false, false, false, false, false, false, false, false, false, false, false, false, false]
abbrev x3q6 : Array Bool := #[true, true, true, true, true, true, false, false, false, false, false, false, false, false, false, false, false, false, false, false, false, false, false, false, false, false, false, false, false, false, false, false, false]
abbrev x3q7 : Array Bool := #[true, true, true, true, true, true, true, false, false, false, false, false, false, false, false, false, false, false, false, false, false, false, false, false, false, false, false, false, false, false, false, false, false]
abbrev x3q8 : Array Bool := #[true, true, true, true, true, true, true, true, false, false, false, false, false, false, false, false, false, false, false, false, false, false, false, false, false, false, false, false, false, false, false, false, false]
abbrev x3q9 : Array Bool := #[true, true, true, true, true, true, true, true, true, false, false, false, false, false, false, false, false, false, false, false, false, false, false, false, false, false, false, false, false, false, false, false, false]
abbrev x3q10 : Array Bool := #[true, true, true, true, true, true, true, true, true, true, false, false, false, false, false, false, false, false, false, false, false, false, false, false, false, false, false, false, false, false, false, false, false]
abbrev x3q11 : Array Bool := #[true, true, true, true, true, true, true, true, true, true, true, false, false, false, false, false, false, false, false, false, false, false, false, false, false, false, false, false, false, false, false, false, false]
abbrev x3q12 : Array Bool := #[true, true, true, true, true, true, true, true, true, true, true, true, false, false, false, false, false, false, false, false, false, false, false, false, false, false, false, false, false, false, false, false, false]
abbrev x3q13 : Array Bool := #[true, true, true, true, true, true, true, true, true, true, true, true, false, true, false, false, false, false, false, false, false, false, false, false, false, false, false, false, false, false, false, false, false]
abbrev x3q14 : Array Bool := #[true, true, true, true, true, true, true, true, true, true, true, true, true, true, false, false, false, false, false, false, false, false, false, false, false, false, false, false, false, false, false, false, false]
abbrev x3q15 : Array Bool := #[true, true, true, true, true, true, true, true, true, true, true, true, true, true, true, false, false, false, false, false, false, false, false, false, false, false, false, false, false, false, false, false, false]
abbrev x3q16 : Array Bool := #[true, true, true, true, true, true, true, true, true, true, true, true, true, true, true, true, false, false, false, false, false, false, false, false, false, false, false, false, false, false, false, false, false]
abbrev x3q17 : Array Bool := #[true, true, true, true, true, true, true, true, true, true, true, true, true, true, true, true, true, false, false, false, false, false, false, false, false, false, false, false, false, false, false, false, false]
abbrev x3q18 : Array Bool := #[true, true, true, true, true, true, true, true, true, true, true, true, true, true, true, true, true, true, false, false, false, false, false, false, false, false, false, false, false, false, false, false, false]
abbrev x3q19 : Array Bool := #[true, true, true, true, true, true, true, true, true, true, true, true, true, true, true, true, true, true, true, false, false, false, false, false, false, false, false, false, false, false, false, false, false]
abbrev x3q20 : Array Bool := #[true, true, true, true, true, true, true, true, true, true, true, true, true, true, true, true, true, true, true, true, false, false, false, false, false, false, false, false, false, false, false, false, false]
abbrev x3q21 : Array Bool := #[true, true, true, true, true, true, true, true, true, true, true, true, true, true, true, true, true, true, true, true, true, false, false, false, false, false, false, false, false, false, false, false, false]
abbrev x3q22 : Array Bool := #[true, true, true, true, true, true, true, true, true, true, true, true, true, true, true, true, true, true, true, true, true, true, false, false, false, false, false, false, false, false, false, false, false]
abbrev x3q23 : Array Bool := #[true, true, true, true, true, true, true, true, true, true, true, true, true, true, true, true, true, true, true, true, true, true, true, false, false, false, false, false, false, false, false, false, false]
abbrev x3q24 : Array Bool := #[true, true, true, true, true, true, true, true, true, true, true, true, true, true, true, true, true, true, true, true, true, true, true, true, false, false, false, false, false, false, false, false, false]
abbrev x3q25 : Array Bool := #[true, true, true, true, true, true, true, true, true, true, true, true, true, true, true, true, true, true, true, true, true, true, true, true, true, false, false, false, false, false, false, false, false]
abbrev x3q26 : Array Bool := #[true, true, true, true, true, true, true, true, true, true, true, true, true, true, true, true, true, true, true, true, true, true, true, true, true, true, false, false, false, false, false, false, false]
abbrev x3q27 : Array Bool := #[true, true, true, true, true, true, true, true, true, true, true, true, true, true, true, true, true, true, true, true, true, true, true, true, true, true, true, false, false, false, false, false, false]
abbrev x3q28 : Array Bool := #[true, true, true, true, true, true, true, true, true, true, true, true, true, true, true, true, true, true, true, true, true, true, true, true, true, true, true, true, false, false, false, false, false]
abbrev x3q29 : Array Bool := #[true, true, true, true, true, true, true, true, true, true, true, true, true, true, true, true, true, true, true, true, true, true, true, true, true, true, true, true, true, false, false, false, false]
abbrev x3q30 : Array Bool := #[true, true, true, true, true, true, true, true, true, true, true, true, true, true, true, true, true, true, true, true, true, true, true, true, true, true, true, true, true, true, false, false, false]
abbrev x3q31 : Array Bool := #[true, true, true, true, true, true, true, true, true, true, true, true, true, true, true, true, true, true, true, true, true, true, true, true, true, true, true, true, true, true, true, false, false]
abbrev x3q32 : Array Bool := #[true, true, true, true, true, true, true, true, true, true, true, true, true, true, true, true, true, true, true, true, true, true, true, true, true, true, true, true, true, true, true, true, false]
abbrev x3q33 : Array Bool := #[true, true, true, true, true, true, true, true, true, true, true, true, true, true, true, true, true, true, true, true, true, true, true, true, true, true, true, true, true, true, true, true, true]
abbrev x3q34 : Array Bool := #[true, true, true, true, true, true, true, true, true, true, true, true, true, true, true, true, true, true, true, true, true, true, false, true, false, false, false, false, false, false, false, false, false]
abbrev x3q35 : Array Bool := #[true, true, true, true, true, true, true, true, true, true, true, true, true, true, true, true, true, true, true, true, true, true, false, true, true, false, false, false, false, false, false, false, false]
abbrev x3q36 : Array Bool := #[true, true, true, true, true, true, true, true, true, true, true, true, true, true, true, true, true, true, true, true, true, true, false, true, true, true, false, false, false, false, false, false, false]
abbrev x3q37 : Array Bool := #[true, true, true, true, true, true, true, true, true, true, true, true, true, true, true, true, true, true, true, true, true, true, false, true, true, true, true, false, false, false, false, false, false]
abbrev x3q38 : Array Bool := #[true, true, true, true, true, true, true, true, true, true, true, true, true, true, true, true, true, true, true, true, true, true, false, true, true, true, true, true, false, false, false, false, false]
abbrev x3q39 : Array Bool := #[true, true, true, true, true, true, true, true, true, true, true, true, true, false, false, false, false, false, false, false, false, false, false, false, false, false, false, false, false, false, false, false, false]
theorem x3sa {α : Type} (l : List α) (i : Nat) (a : α) : l.toArray.setIfInBounds i a = (l.set i a).toArray := by simp
theorem x3sz {α : Type} {l : List α} {a b : α} : (a :: l).set 0 b = b :: l := by simp
theorem x3ss {α : Type} {l : List α} {i : Nat} {a b : α} : (a :: l).set (i + 1) b = a :: l.set i b := by simp
/-! ### dom_right: function 45 -/
def dom_right.l0 : Nat → List (S62) → List (S62) → Int → Int → Option (Bool)
  | 0, _, _, _, _ => none
  | k + 1, x0, x5, x6, x7 => if x7 < x6 then (if 0 ≤ x7 then (if x7 < (x5.length : Int) then ((dom_value.f ((rd_T62 x5 x7).f0)).bind fun t103 => (if t103 = true then ((dom_value.f ((rd_T62 x5 x7).f1)).bind fun t104 => (if t104 = true then (if ((rd_T62 x5 x7).f0) > ((rd_T62 x5 x7).f1) then (some false) else (if x7 > 0 then (if 0 ≤ (wrap64 (x7 - 1)) then (if (wrap64 (x7 - 1)) < (x0.length : Int) then (if ((rd_T62 x5 x7).f0) < (wrap64 (((rd_T62 x0 (wrap64 (x7 - 1))).f1) + 2)) then (some false) else (dom_right.l0 k x0 x5 x6 (wrap64 (x7 + 1)))) else (none)) else (none)) else (dom_right.l0 k x0 x5 x6 (wrap64 (x7 + 1))))) else (some false))) else (some false))) else (none)) else (none)) else (some true)
def dom_right.f (k : Nat) (l0 : List (S62)) : Option (Bool) := dom_right.l0 k l0 l0 (l0.length : Int) 0
theorem dom_right.mono_l : ∀ k, (∀ y0 y1 y2 y3, LeO (dom_right.l0 k y0 y1 y2 y3) (dom_right.l0 (k + 1) y0 y1 y2 y3))
  | 0 => fun _ _ _ _ r h => by simp [dom_right.l0] at h
  | k + 1 => by
    have ih0 := dom_right.mono_l k
    · intro y0 y1 y2 y3
      unfold dom_right.l0
      repeat' first
      | (with_reducible exact ih0 _ _ _ _)
      | (with_reducible exact LeO.refl _)
      | (with_reducible exact LeO.none _)
      | (with_reducible refine LeO.ite ?_ ?_)
      | (with_reducible refine LeO.bind ?_ (fun _ => ?_))
      | exact ih0 _ _ _ _
      | exact LeO.none _
      | refine LeO.ite ?_ ?_
      | refine LeO.bind ?_ (fun _ => ?_)
theorem dom_right.mono : ∀ a0 k, LeO (dom_right.f k a0) (dom_right.f (k + 1) a0) := by
  intro a0 k
  have ih0 := dom_right.mono_l k
  unfold dom_right.f
  repeat' first
      | (with_reducible exact ih0 _ _ _ _)
      | (with_reducible exact LeO.refl _)
      | (with_reducible exact LeO.none _)
      | (with_reducible refine LeO.ite ?_ ?_)
      | (with_reducible refine LeO.bind ?_ (fun _ => ?_))
      | exact ih0 _ _ _ _
      | exact LeO.none _
      | refine LeO.ite ?_ ?_
      | refine LeO.bind ?_ (fun _ => ?_)
def dom_right.T4 : Bool × List (List Nat × List Nat) := (true, [([], []), ([0], [0]), ([1], [1]), ([2], [2]), ([3, 2], [3]), ([4], [4]), ([5, 4], [4, 5]), ([6, 4, 4], [4, 6]), ([7, 4], [4, 7]), ([4, 8], [4, 8]), ([9, 7], [9]), ([10], [10]), ([11, 10], [10, 11]), ([10], [10]), ([13, 10], [10, 13]), ([12, 14, 10], [10, 12, 14]), ([10, 15], [10, 15]), ([16, 10], [16]), ([17], [17]), ([18, 17], [17, 18]), ([19, 17, 17], [17, 19]), ([20], [20]), ([21, 20], [20, 21]), ([20], [20]), ([20], [20]), ([24, 20], [20, 24]), ([23, 25, 20], [20, 23, 25]), ([26, 20], [20, 26]), ([27, 20], [20, 27]), ([28, 20], [20, 28]), ([22, 29, 20], [20, 22, 29]), ([20, 30, 17], [17, 20, 30]), ([17, 31], [17, 31])])
def dom_right.B4 : List Nat := [0, 1, 3, 7, 15, 31, 63, 127, 255, 511, 1023, 2047, 4095, 2047, 10239, 32767, 65535, 131071, 262143, 524287, 1048575, 2097151, 4194303, 2097151, 2097151, 18874367, 60817407, 127926271, 262143999, 530579455, 1073741823, 2147483647, 4294967295]
theorem dom_right.tab4 : rtab .any (opsOf Try.f45 4) = dom_right.T4 := by kernel_rfl
theorem dom_right.bits4 : waitsOk dom_right.T4.2 dom_right.B4 = true := by kernel_rfl
set_option maxHeartbeats 8000000 in
set_option maxRecDepth 100000 in
theorem dom_right.calls (k : Nat) (A0 : Option Addr) (c0 : Nat) (l0 : List (S62)) (r : Bool) (w : World) (hr0 : Kd.C k62 w A0 l0.length l0) (hc0 : l0.length ≤ c0) (h : dom_right.f k l0 = some r) :
    Calls Try.prog 45 #[.slice A0 l0.length c0] w fun e w' => e = .returned (.bool r) ∧ Below w.heap.size w w' := by
  have hu62 := Try.underlying62
  have HR0 := Aside0.mk hr0
  have HC0 := Aside0.mk hc0
  clear hr0 hc0
  have HB := Aside0.mk (Below.refl w.heap.size w)
  have H : (dom_right.l0 k l0 l0 (l0.length : Int) 0) = some r := h
  clear h
  have H' := Aside0.mk H
  clear H
  go_enter Try.func45, Try.ntmps45
  go_wp2
  go_loopg [7] k (fun kq v7 w' => ∃ (x7_1 : Int), v7 = .int .i64 x7_1 ∧ Aside0 (dom_right.l0 kq l0 l0 (l0.length : Int) x7_1 = some r) ∧ Aside0 (kq ≤ k) ∧ Aside0 (Below w.heap.size w w'))
  case atStart => exact ⟨(0), (by first | rfl | (simp; done) | (simp [*]; done)), H', ⟨Nat.le_refl _⟩, ⟨by repeat (first | (with_reducible first | exact HB.out | apply below_alloc | apply pw_below_drewN | apply below_drew1) | exact HB.out)⟩⟩
  case round =>
    clear H'
    obtain ⟨x7_1, rfl, HA, HK1, HB⟩ := hrel
    cases gk with
    | zero => exact absurd HA.out (by simp [dom_right.l0])
    | succ k1 =>
      have H := HA.out
      clear HA
      simp only [dom_right.l0] at H
      by_cases c2 : x7_1 < (l0.length : Int)
      · rw [if_pos c2] at H
        have c2b0 : decide (x7_1 < (l0.length : Int)) = true := decide_eq_true c2
        clear c2
        by_cases c3 : 0 ≤ x7_1
        · rw [if_pos c3] at H
          have c3b0 : decide (0 ≤ x7_1) = true := decide_eq_true c3
          clear c3
          by_cases c4 : x7_1 < (l0.length : Int)
          · rw [if_pos c4] at H
            have c4b0 : decide (x7_1 < (l0.length : Int)) = true := decide_eq_true c4
            clear c4
            replace H := Option.bind_eq_some_iff.mp H
            obtain ⟨t103, A50, H⟩ := H
            replace H : (if t103 = true then ((dom_value.f ((rd_T62 l0 x7_1).f1)).bind fun t104 => (if t104 = true then (if ((rd_T62 l0 x7_1).f0) > ((rd_T62 l0 x7_1).f1) then (some false) else (if x7_1 > 0 then (if 0 ≤ (wrap64 (x7_1 - 1)) then (if (wrap64 (x7_1 - 1)) < (l0.length : Int) then (if ((rd_T62 l0 x7_1).f0) < (wrap64 (((rd_T62 l0 (wrap64 (x7_1 - 1))).f1) + 2)) then (some false) else (dom_right.l0 k1 l0 l0 (l0.length : Int) (wrap64 (x7_1 + 1)))) else (none)) else (none)) else (dom_right.l0 k1 l0 l0 (l0.length : Int) (wrap64 (x7_1 + 1))))) else (some false))) else (some false)) = some r := H
            have A5 := Aside0.mk A50
            clear A50
            by_cases c6 : t103 = true
            · subst c6
              have H1 : ((dom_value.f ((rd_T62 l0 x7_1).f1)).bind fun t104 => (if t104 = true then (if ((rd_T62 l0 x7_1).f0) > ((rd_T62 l0 x7_1).f1) then (some false) else (if x7_1 > 0 then (if 0 ≤ (wrap64 (x7_1 - 1)) then (if (wrap64 (x7_1 - 1)) < (l0.length : Int) then (if ((rd_T62 l0 x7_1).f0) < (wrap64 (((rd_T62 l0 (wrap64 (x7_1 - 1))).f1) + 2)) then (some false) else (dom_right.l0 k1 l0 l0 (l0.length : Int) (wrap64 (x7_1 + 1)))) else (none)) else (none)) else (dom_right.l0 k1 l0 l0 (l0.length : Int) (wrap64 (x7_1 + 1))))) else (some false))) = some r := by rw [if_pos rfl] at H; exact H
              clear H
              have H := H1
              clear H1
              replace H := Option.bind_eq_some_iff.mp H
              obtain ⟨t104, A70, H⟩ := H
              replace H : (if t104 = true then (if ((rd_T62 l0 x7_1).f0) > ((rd_T62 l0 x7_1).f1) then (some false) else (if x7_1 > 0 then (if 0 ≤ (wrap64 (x7_1 - 1)) then (if (wrap64 (x7_1 - 1)) < (l0.length : Int) then (if ((rd_T62 l0 x7_1).f0) < (wrap64 (((rd_T62 l0 (wrap64 (x7_1 - 1))).f1) + 2)) then (some false) else (dom_right.l0 k1 l0 l0 (l0.length : Int) (wrap64 (x7_1 + 1)))) else (none)) else (none)) else (dom_right.l0 k1 l0 l0 (l0.length : Int) (wrap64 (x7_1 + 1))))) else (some false)) = some r := H
              have A7 := Aside0.mk A70
              clear A70
              by_cases c8 : t104 = true
              · subst c8
                have H1 : (if ((rd_T62 l0 x7_1).f0) > ((rd_T62 l0 x7_1).f1) then (some false) else (if x7_1 > 0 then (if 0 ≤ (wrap64 (x7_1 - 1)) then (if (wrap64 (x7_1 - 1)) < (l0.length : Int) then (if ((rd_T62 l0 x7_1).f0) < (wrap64 (((rd_T62 l0 (wrap64 (x7_1 - 1))).f1) + 2)) then (some false) else (dom_right.l0 k1 l0 l0 (l0.length : Int) (wrap64 (x7_1 + 1)))) else (none)) else (none)) else (dom_right.l0 k1 l0 l0 (l0.length : Int) (wrap64 (x7_1 + 1))))) = some r := by rw [if_pos rfl] at H; exact H
                clear H
                have H := H1
                clear H1
                by_cases c9 : ((rd_T62 l0 x7_1).f0) > ((rd_T62 l0 x7_1).f1)
                · rw [if_pos c9] at H
                  have c9b0 : decide (((rd_T62 l0 x7_1).f1) < ((rd_T62 l0 x7_1).f0)) = true := decide_eq_true c9
                  clear c9
                  obtain rfl := Option.some.inj H
                  have p101 : 0 ≤ (x7_1 : Int) := of_decide_eq_true (by first | (with_reducible assumption) | assumption)
                  have q101 : x7_1 < (l0.length : Int) := of_decide_eq_true (by first | (with_reducible assumption) | assumption)
                  obtain ⟨ad101, e101, hx101_0, hx101_1⟩ := at_T62 HR0.out x7_1 p101 q101
                  cases e101
                  replace hx101_0 := (HB.out.cell (World.block_lt_of_cell? w _ hx101_0)).trans hx101_0
                  replace hx101_1 := (HB.out.cell (World.block_lt_of_cell? w _ hx101_1)).trans hx101_1
                  replace p101 := eq_true p101
                  replace q101 := eq_true q101
                  try go_wp2_with (first | ((with_reducible refine gate_dst (N := 4) rfl ?_); refine box_event ?hg (N := 4) ?hd (cs := #[.int .i64 0, .int .i64 0]) (t := 62) ?hr ?_; (case hd => rfl); (case hg => rfl); (case hr => first | (go_simp; done) | (go_simp; rfl)); intro gb102 hg w10 hbox hb; have n0_ := Aside0.mk (below_step (by repeat (first | (with_reducible first | exact HB.out | apply below_alloc | apply pw_below_drewN | apply below_drew1) | exact HB.out)) hb); have n1_ := Aside0.mk (hbox); have n2_ := Aside0.mk ((by rw [hg]; exact (below_size (by repeat (first | (with_reducible first | exact HB.out | apply below_alloc | apply pw_below_drewN | apply below_drew1) | exact HB.out))) : w.heap.size ≤ gb102)); have n3_ := Aside0.mk ((by rw [hg]; exact (below_size (by repeat (first | (with_reducible first | exact HB.out | apply below_alloc | apply pw_below_drewN | apply below_drew1) | exact HB.out))) : w.heap.size ≤ gb102)); clear HB; have HB := n0_; have BK102 := n1_; have GW102 := n2_; have GE102 := n3_; clear n0_ n1_ n2_ n3_; clear hb hbox hg; have hcz11_0 : w10.cell? ⟨gb102, 0, none⟩ = some (.int .i64 0) := (blk_cell BK102.out 0).trans rfl; have hcz11_1 : w10.cell? ⟨gb102, 1, none⟩ = some (.int .i64 0) := (blk_cell BK102.out 1).trans rfl; have hfz11_0 := blk_frozen BK102.out 0; have hfz11_1 := blk_frozen BK102.out 1))
                  have n0_ : Aside0 (((w10.setCell ⟨gb102, 0, none⟩ (.int .i64 ((rd_T62 l0 x7_1).f0))).setCell ⟨gb102, 1, none⟩ (.int .i64 ((rd_T62 l0 x7_1).f1))).heap[gb102]? = some (.cells #[.int .i64 ((rd_T62 l0 x7_1).f0), .int .i64 ((rd_T62 l0 x7_1).f1)] 62 (0, 0))) := ⟨by (with_reducible repeat (first | refine blk_drewN ?_ _ | refine blk_drew ?_ | refine blk_alloc ?_ _)); refine blk_put (cs := #[.int .i64 ((rd_T62 l0 x7_1).f0), .int .i64 0]) ?_ 1 _ rfl; (with_reducible repeat (first | refine blk_drewN ?_ _ | refine blk_drew ?_ | refine blk_alloc ?_ _)); refine blk_put (cs := #[.int .i64 0, .int .i64 0]) ?_ 0 _ rfl; (with_reducible repeat (first | refine blk_drewN ?_ _ | refine blk_drew ?_ | refine blk_alloc ?_ _)); exact BK102.out⟩
                  have n1_ : Aside0 (Below w.heap.size w ((w10.setCell ⟨gb102, 0, none⟩ (.int .i64 ((rd_T62 l0 x7_1).f0))).setCell ⟨gb102, 1, none⟩ (.int .i64 ((rd_T62 l0 x7_1).f1)))) := ⟨by repeat (first | (with_reducible first | exact HB.out | apply below_alloc | apply pw_below_drewN | apply below_drew1 | refine below_set ?_ GE102.out) | exact HB.out)⟩
                  (try clear BK102)
                  (try clear HB)
                  generalize ((w10.setCell ⟨gb102, 0, none⟩ (.int .i64 ((rd_T62 l0 x7_1).f0))).setCell ⟨gb102, 1, none⟩ (.int .i64 ((rd_T62 l0 x7_1).f1))) = w12 at n0_ n1_ ⊢
                  have BK102 := n0_
                  have HB := n1_
                  clear n0_ n1_
                  have n0_ := Aside0.mk (blk_drew BK102.out)
                  have n1_ := Aside0.mk (below_drew1 HB.out)
                  clear BK102
                  clear HB
                  have BK102 := n0_
                  have HB := n1_
                  clear n0_ n1_
                  refine start_ (n := 33) (S := fun w' => w'.cell? ⟨gb102, 0, none⟩ = some (.int .i64 ((rd_T62 l0 x7_1).f0)) ∧ w'.cell? ⟨gb102, 1, none⟩ = some (.int .i64 ((rd_T62 l0 x7_1).f1))) (ds := []) x3q0 (by kernel_rfl) rfl rfl ⟨(blk_cell BK102.out 0).trans rfl, (blk_cell BK102.out 1).trans rfl⟩ (fun hHeld => ?_); refine with_tabW dom_right.tab4 dom_right.bits4 (fun HT_ HW_ => ?_)
                  generalize w12.drew = w13 at BK102 HB hHeld ⊢
                  refine pure_ (i := 0) (N := some 12) (v := ?_) (a' := ?_) x3q1 rfl rfl (any_of HT_.out (by kernel_rfl)) (fun _ _ _ h => h) (Or.inl ⟨by rfl, ?_⟩) ?_ ?_
                  rotate_left; (· intro w'; go_simp; with_reducible rfl); rotate_left; (· simp only [Act.put, x3sa, x3sz, x3ss, i64_w, i32_w]; rfl)
                  refine take_ (i := 1) (N := some 13) (v := ?_) (a' := ?_) x3q2 rfl rfl (take_ofW HT_.out HW_.out (by kernel_rfl)) (fun _ _ _ h => h) (Or.inl ⟨by rfl, ?_⟩) hHeld ?_ ?_
                  rotate_left; (· rintro w' ⟨s0, s1⟩; go_simp; with_reducible rfl); rotate_left; (· simp only [Act.put, x3sa, x3sz, x3ss, i64_w, i32_w]; rfl)
                  refine one_ (i := 2) (N := some 14) x3q3 rfl rfl (one_of HT_.out (by kernel_rfl)) (by decide) (fun K hK => ?_)
                  refine goes_ Try.func50 (by kernel_rfl) rfl #[.int .i64 ((rd_T62 l0 x7_1).f0)] (by rfl) rfl rfl (by (try simp only [List.map_toArray, List.map_cons, List.map_nil]); first | done | rfl | (simp only [List.length_drop, List.length_take]; rfl)) ?_
                  with_reducible refine (dom_value.calls ((rd_T62 l0 x7_1).f0) true _ A5.out).mono ?_
                  rintro e w' ⟨rfl, ⟨nd, rfl⟩⟩
                  refine ⟨_, rfl, ?_⟩
                  refine hK.out _ _ ⟨(blk_cell BK102.out 0).trans rfl, (blk_cell BK102.out 1).trans rfl⟩ (fun hHeld => ?_)
                  clear hK K
                  refine norm_ (a' := ?_) ?_ ?_
                  rotate_left
                  · show Act.put _ (some 14) _ = _
                    simp only [Act.put, x3sa, x3sz, x3ss, i64_w, i32_w]
                    rfl
                  refine pure_ (i := 3) (N := some 15) (v := ?_) (a' := ?_) x3q4 rfl rfl (any_of HT_.out (by kernel_rfl)) (fun _ _ _ h => h) (Or.inl ⟨by rfl, ?_⟩) ?_ ?_
                  rotate_left; (· intro w'; go_simp; with_reducible rfl); rotate_left; (· simp only [Act.put, x3sa, x3sz, x3ss, i64_w, i32_w]; rfl)
                  refine pure_ (i := 4) (N := some 16) (v := ?_) (a' := ?_) x3q5 rfl rfl (any_of HT_.out (by kernel_rfl)) (fun _ _ _ h => h) (Or.inl ⟨by rfl, ?_⟩) ?_ ?_
                  rotate_left; (· intro w'; go_simp; with_reducible rfl); rotate_left; (· simp only [Act.put, x3sa, x3sz, x3ss, i64_w, i32_w]; rfl)
                  refine pure_ (i := 5) (N := some 17) (v := ?_) (a' := ?_) x3q6 rfl rfl (any_of HT_.out (by kernel_rfl)) (fun _ _ _ h => h) (Or.inl ⟨by rfl, ?_⟩) ?_ ?_
                  rotate_left; (· intro w'; go_simp; with_reducible rfl); rotate_left; (· simp only [Act.put, x3sa, x3sz, x3ss, i64_w, i32_w]; rfl)
                  refine take_ (i := 6) (N := some 18) (v := ?_) (a' := ?_) x3q7 rfl rfl (take_ofW HT_.out HW_.out (by kernel_rfl)) (fun _ _ _ h => h) (Or.inl ⟨by rfl, ?_⟩) hHeld ?_ ?_
                  rotate_left; (· rintro w' ⟨s0, s1⟩; go_simp; with_reducible rfl); rotate_left; (· simp only [Act.put, x3sa, x3sz, x3ss, i64_w, i32_w]; rfl)
                  refine one_ (i := 7) (N := some 19) x3q8 rfl rfl (one_of HT_.out (by kernel_rfl)) (by decide) (fun K hK => ?_)
                  refine goes_ Try.func50 (by kernel_rfl) rfl #[.int .i64 ((rd_T62 l0 x7_1).f1)] (by rfl) rfl rfl (by (try simp only [List.map_toArray, List.map_cons, List.map_nil]); first | done | rfl | (simp only [List.length_drop, List.length_take]; rfl)) ?_
                  with_reducible refine (dom_value.calls ((rd_T62 l0 x7_1).f1) true _ A7.out).mono ?_
                  rintro e w' ⟨rfl, ⟨nd, rfl⟩⟩
                  refine ⟨_, rfl, ?_⟩
                  refine hK.out _ _ ⟨(blk_cell BK102.out 0).trans rfl, (blk_cell BK102.out 1).trans rfl⟩ (fun hHeld => ?_)
                  clear hK K
                  refine norm_ (a' := ?_) ?_ ?_
                  rotate_left
                  · show Act.put _ (some 19) _ = _
                    simp only [Act.put, x3sa, x3sz, x3ss, i64_w, i32_w]
                    rfl
                  refine pure_ (i := 8) (N := some 20) (v := ?_) (a' := ?_) x3q9 rfl rfl (any_of HT_.out (by kernel_rfl)) (fun _ _ _ h => h) (Or.inl ⟨by rfl, ?_⟩) ?_ ?_
                  rotate_left; (· intro w'; go_simp; with_reducible rfl); rotate_left; (· simp only [Act.put, x3sa, x3sz, x3ss, i64_w, i32_w]; rfl)
                  refine pure_ (i := 9) (N := some 21) (v := ?_) (a' := ?_) x3q10 rfl rfl (any_of HT_.out (by kernel_rfl)) (fun _ _ _ h => h) (Or.inl ⟨by rfl, ?_⟩) ?_ ?_
                  rotate_left; (· intro w'; go_simp; with_reducible rfl); rotate_left; (· simp only [Act.put, x3sa, x3sz, x3ss, i64_w, i32_w]; rfl)
                  refine pure_ (i := 10) (N := some 22) (v := ?_) (a' := ?_) x3q11 rfl rfl (any_of HT_.out (by kernel_rfl)) (fun _ _ _ h => h) (Or.inl ⟨by rfl, ?_⟩) ?_ ?_
                  rotate_left; (· intro w'; go_simp; with_reducible rfl); rotate_left; (· simp only [Act.put, x3sa, x3sz, x3ss, i64_w, i32_w]; rfl)
                  refine pure_ (i := 11) (N := some 23) (v := ?_) (a' := ?_) x3q12 rfl rfl (any_of HT_.out (by kernel_rfl)) (fun _ _ _ h => h) (Or.inl ⟨by rfl, ?_⟩) ?_ ?_
                  rotate_left; (· intro w'; go_simp; with_reducible rfl); rotate_left; (· simp only [Act.put, x3sa, x3sz, x3ss, i64_w, i32_w]; rfl)
                  refine pure_ (i := 13) (N := some 25) (v := ?_) (a' := ?_) x3q13 rfl rfl (any_of HT_.out (by kernel_rfl)) (fun _ _ _ h => h) (Or.inl ⟨by rfl, ?_⟩) ?_ ?_
                  rotate_left; (· intro w'; go_simp; with_reducible rfl); rotate_left; (· simp only [Act.put, x3sa, x3sz, x3ss, i64_w, i32_w]; rfl)
                  refine take_ (i := 12) (N := some 24) (v := ?_) (a' := ?_) x3q14 rfl rfl (take_ofW HT_.out HW_.out (by kernel_rfl)) (fun _ _ _ h => h) (Or.inl ⟨by rfl, ?_⟩) hHeld ?_ ?_
                  rotate_left; (· rintro w' ⟨s0, s1⟩; go_simp; with_reducible rfl); rotate_left; (· simp only [Act.put, x3sa, x3sz, x3ss, i64_w, i32_w]; rfl)
                  refine take_ (i := 14) (N := some 26) (v := ?_) (a' := ?_) x3q15 rfl rfl (take_ofW HT_.out HW_.out (by kernel_rfl)) (fun _ _ _ h => h) (Or.inl ⟨by rfl, ?_⟩) hHeld ?_ ?_
                  rotate_left; (· rintro w' ⟨s0, s1⟩; go_simp; with_reducible rfl); rotate_left; (· simp only [Act.put, x3sa, x3sz, x3ss, i64_w, i32_w]; rfl)
                  refine pure_ (i := 15) (N := some 27) (v := ?_) (a' := ?_) x3q16 rfl rfl (any_of HT_.out (by kernel_rfl)) (fun _ _ _ h => h) (Or.inl ⟨by rfl, ?_⟩) ?_ ?_
                  rotate_left; (· intro w'; go_simp; with_reducible rfl); rotate_left; (· simp only [Act.put, x3sa, x3sz, x3ss, i64_w, i32_w]; rfl)
                  refine pure_ (i := 16) (N := some 28) (v := ?_) (a' := ?_) x3q17 rfl rfl (any_of HT_.out (by kernel_rfl)) (fun _ _ _ h => h) (Or.inl ⟨by rfl, ?_⟩) ?_ ?_
                  rotate_left; (· intro w'; go_simp; with_reducible rfl); rotate_left; (· simp only [Act.put, x3sa, x3sz, x3ss, i64_w, i32_w]; rfl)
                  refine pure_ (i := 17) (N := some 29) (v := ?_) (a' := ?_) x3q18 rfl rfl (any_of HT_.out (by kernel_rfl)) (fun _ _ _ h => h) (Or.inl ⟨by rfl, ?_⟩) ?_ ?_
                  rotate_left; (· intro w'; go_simp; with_reducible rfl); rotate_left; (· simp only [Act.put, x3sa, x3sz, x3ss, i64_w, i32_w]; rfl)
                  refine pure_ (i := 18) (N := some 30) (v := undef) (a' := ?_) x3q19 rfl rfl (any_of HT_.out (by kernel_rfl)) (fun _ _ _ h => h) (Or.inr ⟨by rfl, rfl⟩) ?_ ?_
                  rotate_left; (· simp only [Act.put, x3sa, x3sz, x3ss, i64_w, i32_w]; rfl)
                  refine pure_ (i := 19) (N := some 31) (v := undef) (a' := ?_) x3q20 rfl rfl (any_of HT_.out (by kernel_rfl)) (fun _ _ _ h => h) (Or.inr ⟨by rfl, rfl⟩) ?_ ?_
                  rotate_left; (· simp only [Act.put, x3sa, x3sz, x3ss, i64_w, i32_w]; rfl)
                  refine pure_ (i := 20) (N := some 32) (v := undef) (a' := ?_) x3q21 rfl rfl (any_of HT_.out (by kernel_rfl)) (fun _ _ _ h => h) (Or.inr ⟨by rfl, rfl⟩) ?_ ?_
                  rotate_left; (· simp only [Act.put, x3sa, x3sz, x3ss, i64_w, i32_w]; rfl)
                  refine pure_ (i := 21) (N := some 33) (v := undef) (a' := ?_) x3q22 rfl rfl (any_of HT_.out (by kernel_rfl)) (fun _ _ _ h => h) (Or.inr ⟨by rfl, rfl⟩) ?_ ?_
                  rotate_left; (· simp only [Act.put, x3sa, x3sz, x3ss, i64_w, i32_w]; rfl)
                  refine pure_ (i := 22) (N := some 34) (v := undef) (a' := ?_) x3q23 rfl rfl (any_of HT_.out (by kernel_rfl)) (fun _ _ _ h => h) (Or.inr ⟨by rfl, rfl⟩) ?_ ?_
                  rotate_left; (· simp only [Act.put, x3sa, x3sz, x3ss, i64_w, i32_w]; rfl)
                  refine pure_ (i := 23) (N := some 35) (v := undef) (a' := ?_) x3q24 rfl rfl (any_of HT_.out (by kernel_rfl)) (fun _ _ _ h => h) (Or.inr ⟨by rfl, rfl⟩) ?_ ?_
                  rotate_left; (· simp only [Act.put, x3sa, x3sz, x3ss, i64_w, i32_w]; rfl)
                  refine pure_ (i := 24) (N := some 36) (v := undef) (a' := ?_) x3q25 rfl rfl (any_of HT_.out (by kernel_rfl)) (fun _ _ _ h => h) (Or.inr ⟨by rfl, rfl⟩) ?_ ?_
                  rotate_left; (· simp only [Act.put, x3sa, x3sz, x3ss, i64_w, i32_w]; rfl)
                  refine pure_ (i := 25) (N := some 37) (v := undef) (a' := ?_) x3q26 rfl rfl (any_of HT_.out (by kernel_rfl)) (fun _ _ _ h => h) (Or.inr ⟨by rfl, rfl⟩) ?_ ?_
                  rotate_left; (· simp only [Act.put, x3sa, x3sz, x3ss, i64_w, i32_w]; rfl)
                  refine pure_ (i := 26) (N := some 38) (v := undef) (a' := ?_) x3q27 rfl rfl (any_of HT_.out (by kernel_rfl)) (fun _ _ _ h => h) (Or.inr ⟨by rfl, rfl⟩) ?_ ?_
                  rotate_left; (· simp only [Act.put, x3sa, x3sz, x3ss, i64_w, i32_w]; rfl)
                  refine pure_ (i := 27) (N := some 39) (v := undef) (a' := ?_) x3q28 rfl rfl (any_of HT_.out (by kernel_rfl)) (fun _ _ _ h => h) (Or.inr ⟨by rfl, rfl⟩) ?_ ?_
                  rotate_left; (· simp only [Act.put, x3sa, x3sz, x3ss, i64_w, i32_w]; rfl)
                  refine pure_ (i := 28) (N := some 40) (v := undef) (a' := ?_) x3q29 rfl rfl (any_of HT_.out (by kernel_rfl)) (fun _ _ _ h => h) (Or.inr ⟨by rfl, rfl⟩) ?_ ?_
                  rotate_left; (· simp only [Act.put, x3sa, x3sz, x3ss, i64_w, i32_w]; rfl)
                  refine pure_ (i := 29) (N := some 41) (v := undef) (a' := ?_) x3q30 rfl rfl (any_of HT_.out (by kernel_rfl)) (fun _ _ _ h => h) (Or.inr ⟨by rfl, rfl⟩) ?_ ?_
                  rotate_left; (· simp only [Act.put, x3sa, x3sz, x3ss, i64_w, i32_w]; rfl)
                  refine pure_ (i := 30) (N := some 42) (v := undef) (a' := ?_) x3q31 rfl rfl (any_of HT_.out (by kernel_rfl)) (fun _ _ _ h => h) (Or.inr ⟨by rfl, rfl⟩) ?_ ?_
                  rotate_left; (· simp only [Act.put, x3sa, x3sz, x3ss, i64_w, i32_w]; rfl)
                  refine pure_ (i := 31) (N := some 43) (v := undef) (a' := ?_) x3q32 rfl rfl (any_of HT_.out (by kernel_rfl)) (fun _ _ _ h => h) (Or.inr ⟨by rfl, rfl⟩) ?_ ?_
                  rotate_left; (· simp only [Act.put, x3sa, x3sz, x3ss, i64_w, i32_w]; rfl)
                  refine pure_ (i := 32) (N := some 44) (v := ?_) (a' := ?_) x3q33 rfl rfl (any_of HT_.out (by kernel_rfl)) (fun _ _ _ h => h) (Or.inl ⟨by rfl, ?_⟩) ?_ ?_
                  rotate_left; (· intro w'; go_simp; with_reducible rfl); rotate_left; (· simp only [Act.put, x3sa, x3sz, x3ss, i64_w, i32_w]; rfl)
                  refine done_ (done_of HT_.out (by kernel_rfl)) ?_
                  try go_wp2
                  go_ret
                  exact ⟨by first | rfl | (simp [errW_none, errW_some] <;> rfl) | (simp [*, errW_none, errW_some] <;> rfl), by repeat (first | (with_reducible first | exact HB.out | apply below_alloc | apply pw_below_drewN | apply below_drew1 | refine below_set ?_ GE102.out) | exact HB.out)⟩
                · rw [if_neg c9] at H
                  have c9b0 : decide (((rd_T62 l0 x7_1).f1) < ((rd_T62 l0 x7_1).f0)) = false := decide_eq_false c9
                  clear c9
                  by_cases c14 : x7_1 > 0
                  · rw [if_pos c14] at H
                    have c14b0 : decide (0 < x7_1) = true := decide_eq_true c14
                    clear c14
                    obtain ⟨ji15, hji15⟩ : ∃ j_ : Int, (wrap64 (x7_1 - 1)) = j_ := ⟨_, rfl⟩
                    replace H : (if 0 ≤ (ji15) then (if (ji15) < (l0.length : Int) then (if ((rd_T62 l0 x7_1).f0) < (wrap64 (((rd_T62 l0 (ji15)).f1) + 2)) then (some false) else (dom_right.l0 k1 l0 l0 (l0.length : Int) (wrap64 (x7_1 + 1)))) else (none)) else (none)) = some r := by first | (rw [hji15] at H; exact H) | (simp only [hji15] at H ⊢; exact H)
                    (try rw [hji15] at A5)
                    (try rw [hji15] at A7)
                    have hji15w : (IntKind.i64.wrap (x7_1 - 1)) = ji15 := (i64_w _).trans hji15
                    by_cases c16 : 0 ≤ (ji15)
                    · rw [if_pos c16] at H
                      have c16b0 : decide (0 ≤ (ji15)) = true := decide_eq_true c16
                      clear c16
                      by_cases c17 : (ji15) < (l0.length : Int)
                      · rw [if_pos c17] at H
                        have c17b0 : decide ((ji15) < (l0.length : Int)) = true := decide_eq_true c17
                        clear c17
                        by_cases c18 : ((rd_T62 l0 x7_1).f0) < (wrap64 (((rd_T62 l0 (ji15)).f1) + 2))
                        · rw [if_pos c18] at H
                          have c18b0 : decide (((rd_T62 l0 x7_1).f0) < (wrap64 (((rd_T62 l0 (ji15)).f1) + 2))) = true := decide_eq_true c18
                          clear c18
                          obtain rfl := Option.some.inj H
                          have p101 : 0 ≤ (x7_1 : Int) := of_decide_eq_true (by first | (with_reducible assumption) | assumption)
                          have q101 : x7_1 < (l0.length : Int) := of_decide_eq_true (by first | (with_reducible assumption) | assumption)
                          obtain ⟨ad101, e101, hx101_0, hx101_1⟩ := at_T62 HR0.out x7_1 p101 q101
                          cases e101
                          replace hx101_0 := (HB.out.cell (World.block_lt_of_cell? w _ hx101_0)).trans hx101_0
                          replace hx101_1 := (HB.out.cell (World.block_lt_of_cell? w _ hx101_1)).trans hx101_1
                          replace p101 := eq_true p101
                          replace q101 := eq_true q101
                          try go_wp2_with (first | ((with_reducible refine gate_dst (N := 4) rfl ?_); refine box_event ?hg (N := 4) ?hd (cs := #[.int .i64 0, .int .i64 0]) (t := 62) ?hr ?_; (case hd => rfl); (case hg => rfl); (case hr => first | (go_simp; done) | (go_simp; rfl)); intro gb102 hg w19 hbox hb; have n0_ := Aside0.mk (below_step (by repeat (first | (with_reducible first | exact HB.out | apply below_alloc | apply pw_below_drewN | apply below_drew1) | exact HB.out)) hb); have n1_ := Aside0.mk (hbox); have n2_ := Aside0.mk ((by rw [hg]; exact (below_size (by repeat (first | (with_reducible first | exact HB.out | apply below_alloc | apply pw_below_drewN | apply below_drew1) | exact HB.out))) : w.heap.size ≤ gb102)); have n3_ := Aside0.mk ((by rw [hg]; exact (below_size (by repeat (first | (with_reducible first | exact HB.out | apply below_alloc | apply pw_below_drewN | apply below_drew1) | exact HB.out))) : w.heap.size ≤ gb102)); clear HB; have HB := n0_; have BK102 := n1_; have GW102 := n2_; have GE102 := n3_; clear n0_ n1_ n2_ n3_; clear hb hbox hg; have hcz20_0 : w19.cell? ⟨gb102, 0, none⟩ = some (.int .i64 0) := (blk_cell BK102.out 0).trans rfl; have hcz20_1 : w19.cell? ⟨gb102, 1, none⟩ = some (.int .i64 0) := (blk_cell BK102.out 1).trans rfl; have hfz20_0 := blk_frozen BK102.out 0; have hfz20_1 := blk_frozen BK102.out 1))
                          have n0_ : Aside0 (((w19.setCell ⟨gb102, 0, none⟩ (.int .i64 ((rd_T62 l0 x7_1).f0))).setCell ⟨gb102, 1, none⟩ (.int .i64 ((rd_T62 l0 x7_1).f1))).heap[gb102]? = some (.cells #[.int .i64 ((rd_T62 l0 x7_1).f0), .int .i64 ((rd_T62 l0 x7_1).f1)] 62 (0, 0))) := ⟨by (with_reducible repeat (first | refine blk_drewN ?_ _ | refine blk_drew ?_ | refine blk_alloc ?_ _)); refine blk_put (cs := #[.int .i64 ((rd_T62 l0 x7_1).f0), .int .i64 0]) ?_ 1 _ rfl; (with_reducible repeat (first | refine blk_drewN ?_ _ | refine blk_drew ?_ | refine blk_alloc ?_ _)); refine blk_put (cs := #[.int .i64 0, .int .i64 0]) ?_ 0 _ rfl; (with_reducible repeat (first | refine blk_drewN ?_ _ | refine blk_drew ?_ | refine blk_alloc ?_ _)); exact BK102.out⟩
                          have n1_ : Aside0 (Below w.heap.size w ((w19.setCell ⟨gb102, 0, none⟩ (.int .i64 ((rd_T62 l0 x7_1).f0))).setCell ⟨gb102, 1, none⟩ (.int .i64 ((rd_T62 l0 x7_1).f1)))) := ⟨by repeat (first | (with_reducible first | exact HB.out | apply below_alloc | apply pw_below_drewN | apply below_drew1 | refine below_set ?_ GE102.out) | exact HB.out)⟩
                          (try clear BK102)
                          (try clear HB)
                          generalize ((w19.setCell ⟨gb102, 0, none⟩ (.int .i64 ((rd_T62 l0 x7_1).f0))).setCell ⟨gb102, 1, none⟩ (.int .i64 ((rd_T62 l0 x7_1).f1))) = w21 at n0_ n1_ ⊢
                          have BK102 := n0_
                          have HB := n1_
                          clear n0_ n1_
                          have n0_ := Aside0.mk (blk_drew BK102.out)
                          have n1_ := Aside0.mk (below_drew1 HB.out)
                          clear BK102
                          clear HB
                          have BK102 := n0_
                          have HB := n1_
                          clear n0_ n1_
                          have p105 : 0 ≤ ((ji15) : Int) := of_decide_eq_true (by first | (with_reducible assumption) | assumption)
                          have q105 : (ji15) < (l0.length : Int) := of_decide_eq_true (by first | (with_reducible assumption) | assumption)
                          obtain ⟨ad105, e105, hx105_0, hx105_1⟩ := at_T62 HR0.out (ji15) p105 q105
                          have hw105_1 := hx105_1
                          have hw105_0 := hx105_0
                          obtain rfl : ad101 = ad105 := (by injection e105)
                          replace hx105_0 := (HB.out.cell (World.block_lt_of_cell? w _ hx105_0)).trans hx105_0
                          replace hx105_1 := (HB.out.cell (World.block_lt_of_cell? w _ hx105_1)).trans hx105_1
                          replace p105 := eq_true p105
                          replace q105 := eq_true q105
                          refine start_ (n := 33) (S := fun w' => w'.cell? ⟨gb102, 0, none⟩ = some (.int .i64 ((rd_T62 l0 x7_1).f0)) ∧ w'.cell? ⟨gb102, 1, none⟩ = some (.int .i64 ((rd_T62 l0 x7_1).f1)) ∧ w'.cell? (ad101.add (((ji15)).toNat * 2)) = some (.int .i64 ((rd_T62 l0 (ji15)).f0)) ∧ w'.cell? ⟨(ad101.add (((ji15)).toNat * 2)).block, (ad101.add (((ji15)).toNat * 2)).off + 1, none⟩ = some (.int .i64 ((rd_T62 l0 (ji15)).f1))) (ds := []) x3q0 (by kernel_rfl) rfl rfl ⟨(blk_cell BK102.out 0).trans rfl, (blk_cell BK102.out 1).trans rfl, ((HB.out.cell (World.block_lt_of_cell? w _ hw105_0)).trans hw105_0), ((HB.out.cell (World.block_lt_of_cell? w _ hw105_1)).trans hw105_1)⟩ (fun hHeld => ?_); refine with_tabW dom_right.tab4 dom_right.bits4 (fun HT_ HW_ => ?_)
                          generalize w21.drew = w22 at BK102 HB hx105_0 hx105_1 hHeld ⊢
                          refine pure_ (i := 0) (N := some 12) (v := ?_) (a' := ?_) x3q1 rfl rfl (any_of HT_.out (by kernel_rfl)) (fun _ _ _ h => h) (Or.inl ⟨by rfl, ?_⟩) ?_ ?_
                          rotate_left; (· intro w'; go_simp; with_reducible rfl); rotate_left; (· simp only [Act.put, x3sa, x3sz, x3ss, i64_w, i32_w]; rfl)
                          refine take_ (i := 1) (N := some 13) (v := ?_) (a' := ?_) x3q2 rfl rfl (take_ofW HT_.out HW_.out (by kernel_rfl)) (fun _ _ _ h => h) (Or.inl ⟨by rfl, ?_⟩) hHeld ?_ ?_
                          rotate_left; (· rintro w' ⟨s0, s1, s2, s3⟩; go_simp; with_reducible rfl); rotate_left; (· simp only [Act.put, x3sa, x3sz, x3ss, i64_w, i32_w]; rfl)
                          refine one_ (i := 2) (N := some 14) x3q3 rfl rfl (one_of HT_.out (by kernel_rfl)) (by decide) (fun K hK => ?_)
                          refine goes_ Try.func50 (by kernel_rfl) rfl #[.int .i64 ((rd_T62 l0 x7_1).f0)] (by rfl) rfl rfl (by (try simp only [List.map_toArray, List.map_cons, List.map_nil]); first | done | rfl | (simp only [List.length_drop, List.length_take]; rfl)) ?_
                          with_reducible refine (dom_value.calls ((rd_T62 l0 x7_1).f0) true _ A5.out).mono ?_
                          rintro e w' ⟨rfl, ⟨nd, rfl⟩⟩
                          refine ⟨_, rfl, ?_⟩
                          refine hK.out _ _ ⟨(blk_cell BK102.out 0).trans rfl, (blk_cell BK102.out 1).trans rfl, ((HB.out.cell (World.block_lt_of_cell? w _ hw105_0)).trans hw105_0), ((HB.out.cell (World.block_lt_of_cell? w _ hw105_1)).trans hw105_1)⟩ (fun hHeld => ?_)
                          clear hK K
                          refine norm_ (a' := ?_) ?_ ?_
                          rotate_left
                          · show Act.put _ (some 14) _ = _
                            simp only [Act.put, x3sa, x3sz, x3ss, i64_w, i32_w]
                            rfl
                          refine pure_ (i := 3) (N := some 15) (v := ?_) (a' := ?_) x3q4 rfl rfl (any_of HT_.out (by kernel_rfl)) (fun _ _ _ h => h) (Or.inl ⟨by rfl, ?_⟩) ?_ ?_
                          rotate_left; (· intro w'; go_simp; with_reducible rfl); rotate_left; (· simp only [Act.put, x3sa, x3sz, x3ss, i64_w, i32_w]; rfl)
                          refine pure_ (i := 4) (N := some 16) (v := ?_) (a' := ?_) x3q5 rfl rfl (any_of HT_.out (by kernel_rfl)) (fun _ _ _ h => h) (Or.inl ⟨by rfl, ?_⟩) ?_ ?_
                          rotate_left; (· intro w'; go_simp; with_reducible rfl); rotate_left; (· simp only [Act.put, x3sa, x3sz, x3ss, i64_w, i32_w]; rfl)
                          refine pure_ (i := 5) (N := some 17) (v := ?_) (a' := ?_) x3q6 rfl rfl (any_of HT_.out (by kernel_rfl)) (fun _ _ _ h => h) (Or.inl ⟨by rfl, ?_⟩) ?_ ?_
                          rotate_left; (· intro w'; go_simp; with_reducible rfl); rotate_left; (· simp only [Act.put, x3sa, x3sz, x3ss, i64_w, i32_w]; rfl)
                          refine take_ (i := 6) (N := some 18) (v := ?_) (a' := ?_) x3q7 rfl rfl (take_ofW HT_.out HW_.out (by kernel_rfl)) (fun _ _ _ h => h) (Or.inl ⟨by rfl, ?_⟩) hHeld ?_ ?_
                          rotate_left; (· rintro w' ⟨s0, s1, s2, s3⟩; go_simp; with_reducible rfl); rotate_left; (· simp only [Act.put, x3sa, x3sz, x3ss, i64_w, i32_w]; rfl)
                          refine one_ (i := 7) (N := some 19) x3q8 rfl rfl (one_of HT_.out (by kernel_rfl)) (by decide) (fun K hK => ?_)
                          refine goes_ Try.func50 (by kernel_rfl) rfl #[.int .i64 ((rd_T62 l0 x7_1).f1)] (by rfl) rfl rfl (by (try simp only [List.map_toArray, List.map_cons, List.map_nil]); first | done | rfl | (simp only [List.length_drop, List.length_take]; rfl)) ?_
                          with_reducible refine (dom_value.calls ((rd_T62 l0 x7_1).f1) true _ A7.out).mono ?_
                          rintro e w' ⟨rfl, ⟨nd, rfl⟩⟩
                          refine ⟨_, rfl, ?_⟩
                          refine hK.out _ _ ⟨(blk_cell BK102.out 0).trans rfl, (blk_cell BK102.out 1).trans rfl, ((HB.out.cell (World.block_lt_of_cell? w _ hw105_0)).trans hw105_0), ((HB.out.cell (World.block_lt_of_cell? w _ hw105_1)).trans hw105_1)⟩ (fun hHeld => ?_)
                          clear hK K
                          refine norm_ (a' := ?_) ?_ ?_
                          rotate_left
                          · show Act.put _ (some 19) _ = _
                            simp only [Act.put, x3sa, x3sz, x3ss, i64_w, i32_w]
                            rfl
                          refine pure_ (i := 8) (N := some 20) (v := ?_) (a' := ?_) x3q9 rfl rfl (any_of HT_.out (by kernel_rfl)) (fun _ _ _ h => h) (Or.inl ⟨by rfl, ?_⟩) ?_ ?_
                          rotate_left; (· intro w'; go_simp; with_reducible rfl); rotate_left; (· simp only [Act.put, x3sa, x3sz, x3ss, i64_w, i32_w]; rfl)
                          refine pure_ (i := 9) (N := some 21) (v := ?_) (a' := ?_) x3q10 rfl rfl (any_of HT_.out (by kernel_rfl)) (fun _ _ _ h => h) (Or.inl ⟨by rfl, ?_⟩) ?_ ?_
                          rotate_left; (· intro w'; go_simp; with_reducible rfl); rotate_left; (· simp only [Act.put, x3sa, x3sz, x3ss, i64_w, i32_w]; rfl)
                          refine pure_ (i := 10) (N := some 22) (v := ?_) (a' := ?_) x3q11 rfl rfl (any_of HT_.out (by kernel_rfl)) (fun _ _ _ h => h) (Or.inl ⟨by rfl, ?_⟩) ?_ ?_
                          rotate_left; (· intro w'; go_simp; with_reducible rfl); rotate_left; (· simp only [Act.put, x3sa, x3sz, x3ss, i64_w, i32_w]; rfl)
                          refine pure_ (i := 11) (N := some 23) (v := ?_) (a' := ?_) x3q12 rfl rfl (any_of HT_.out (by kernel_rfl)) (fun _ _ _ h => h) (Or.inl ⟨by rfl, ?_⟩) ?_ ?_
                          rotate_left; (· intro w'; go_simp; with_reducible rfl); rotate_left; (· simp only [Act.put, x3sa, x3sz, x3ss, i64_w, i32_w]; rfl)
                          refine pure_ (i := 13) (N := some 25) (v := ?_) (a' := ?_) x3q13 rfl rfl (any_of HT_.out (by kernel_rfl)) (fun _ _ _ h => h) (Or.inl ⟨by rfl, ?_⟩) ?_ ?_
                          rotate_left; (· intro w'; go_simp; with_reducible rfl); rotate_left; (· simp only [Act.put, x3sa, x3sz, x3ss, i64_w, i32_w]; rfl)
                          refine take_ (i := 12) (N := some 24) (v := ?_) (a' := ?_) x3q14 rfl rfl (take_ofW HT_.out HW_.out (by kernel_rfl)) (fun _ _ _ h => h) (Or.inl ⟨by rfl, ?_⟩) hHeld ?_ ?_
                          rotate_left; (· rintro w' ⟨s0, s1, s2, s3⟩; go_simp; with_reducible rfl); rotate_left; (· simp only [Act.put, x3sa, x3sz, x3ss, i64_w, i32_w]; rfl)
                          refine take_ (i := 14) (N := some 26) (v := ?_) (a' := ?_) x3q15 rfl rfl (take_ofW HT_.out HW_.out (by kernel_rfl)) (fun _ _ _ h => h) (Or.inl ⟨by rfl, ?_⟩) hHeld ?_ ?_
                          rotate_left; (· rintro w' ⟨s0, s1, s2, s3⟩; go_simp; with_reducible rfl); rotate_left; (· simp only [Act.put, x3sa, x3sz, x3ss, i64_w, i32_w]; rfl)
                          refine pure_ (i := 15) (N := some 27) (v := ?_) (a' := ?_) x3q16 rfl rfl (any_of HT_.out (by kernel_rfl)) (fun _ _ _ h => h) (Or.inl ⟨by rfl, ?_⟩) ?_ ?_
                          rotate_left; (· intro w'; go_simp; with_reducible rfl); rotate_left; (· simp only [Act.put, x3sa, x3sz, x3ss, i64_w, i32_w]; rfl)
                          refine pure_ (i := 16) (N := some 28) (v := ?_) (a' := ?_) x3q17 rfl rfl (any_of HT_.out (by kernel_rfl)) (fun _ _ _ h => h) (Or.inl ⟨by rfl, ?_⟩) ?_ ?_
                          rotate_left; (· intro w'; go_simp; with_reducible rfl); rotate_left; (· simp only [Act.put, x3sa, x3sz, x3ss, i64_w, i32_w]; rfl)
                          refine pure_ (i := 17) (N := some 29) (v := ?_) (a' := ?_) x3q18 rfl rfl (any_of HT_.out (by kernel_rfl)) (fun _ _ _ h => h) (Or.inl ⟨by rfl, ?_⟩) ?_ ?_
                          rotate_left; (· intro w'; go_simp; with_reducible rfl); rotate_left; (· simp only [Act.put, x3sa, x3sz, x3ss, i64_w, i32_w]; rfl)
                          refine pure_ (i := 18) (N := some 30) (v := ?_) (a' := ?_) x3q19 rfl rfl (any_of HT_.out (by kernel_rfl)) (fun _ _ _ h => h) (Or.inl ⟨by rfl, ?_⟩) ?_ ?_
                          rotate_left; (· intro w'; go_simp; with_reducible rfl); rotate_left; (· simp only [Act.put, x3sa, x3sz, x3ss, i64_w, i32_w]; rfl)
                          refine pure_ (i := 19) (N := some 31) (v := ?_) (a' := ?_) x3q20 rfl rfl (any_of HT_.out (by kernel_rfl)) (fun _ _ _ h => h) (Or.inl ⟨by rfl, ?_⟩) ?_ ?_
                          rotate_left; (· intro w'; go_simp; with_reducible rfl); rotate_left; (· simp only [Act.put, x3sa, x3sz, x3ss, i64_w, i32_w]; rfl)
                          refine pure_ (i := 20) (N := some 32) (v := ?_) (a' := ?_) x3q21 rfl rfl (any_of HT_.out (by kernel_rfl)) (fun _ _ _ h => h) (Or.inl ⟨by rfl, ?_⟩) ?_ ?_
                          rotate_left; (· intro w'; go_simp; with_reducible rfl); rotate_left; (· simp only [Act.put, x3sa, x3sz, x3ss, i64_w, i32_w]; rfl)
                          refine pure_ (i := 21) (N := some 33) (v := ?_) (a' := ?_) x3q22 rfl rfl (any_of HT_.out (by kernel_rfl)) (fun _ _ _ h => h) (Or.inl ⟨by rfl, ?_⟩) ?_ ?_
                          rotate_left; (· intro w'; go_simp; with_reducible rfl); rotate_left; (· simp only [Act.put, x3sa, x3sz, x3ss, i64_w, i32_w]; rfl)
                          refine pure_ (i := 23) (N := some 35) (v := ?_) (a' := ?_) x3q34 rfl rfl (any_of HT_.out (by kernel_rfl)) (fun _ _ _ h => h) (Or.inl ⟨by rfl, ?_⟩) ?_ ?_
                          rotate_left; (· intro w'; go_simp; with_reducible rfl); rotate_left; (· simp only [Act.put, x3sa, x3sz, x3ss, i64_w, i32_w]; rfl)
                          refine pure_ (i := 24) (N := some 36) (v := ?_) (a' := ?_) x3q35 rfl rfl (any_of HT_.out (by kernel_rfl)) (fun _ _ _ h => h) (Or.inl ⟨by rfl, ?_⟩) ?_ ?_
                          rotate_left; (· intro w'; go_simp; with_reducible rfl); rotate_left; (· simp only [Act.put, x3sa, x3sz, x3ss, i64_w, i32_w]; rfl)
                          refine pure_ (i := 25) (N := some 37) (v := ?_) (a' := ?_) x3q36 rfl rfl (any_of HT_.out (by kernel_rfl)) (fun _ _ _ h => h) (Or.inl ⟨by rfl, ?_⟩) ?_ ?_
                          rotate_left; (· intro w'; go_simp; with_reducible rfl); rotate_left; (· simp only [Act.put, x3sa, x3sz, x3ss, i64_w, i32_w]; rfl)
                          refine pure_ (i := 26) (N := some 38) (v := ?_) (a' := ?_) x3q37 rfl rfl (any_of HT_.out (by kernel_rfl)) (fun _ _ _ h => h) (Or.inl ⟨by rfl, ?_⟩) ?_ ?_
                          rotate_left; (· intro w'; go_simp; with_reducible rfl); rotate_left; (· simp only [Act.put, x3sa, x3sz, x3ss, i64_w, i32_w]; rfl)
                          refine pure_ (i := 27) (N := some 39) (v := ?_) (a' := ?_) x3q38 rfl rfl (any_of HT_.out (by kernel_rfl)) (fun _ _ _ h => h) (Or.inl ⟨by rfl, ?_⟩) ?_ ?_
                          rotate_left; (· intro w'; go_simp; with_reducible rfl); rotate_left; (· simp only [Act.put, x3sa, x3sz, x3ss, i64_w, i32_w]; rfl)
                          refine take_ (i := 22) (N := some 34) (v := ?_) (a' := ?_) x3q28 rfl rfl (take_ofW HT_.out HW_.out (by kernel_rfl)) (fun _ _ _ h => h) (Or.inl ⟨by rfl, ?_⟩) hHeld ?_ ?_
                          rotate_left; (· rintro w' ⟨s0, s1, s2, s3⟩; go_simp; with_reducible rfl); rotate_left; (· simp only [Act.put, x3sa, x3sz, x3ss, i64_w, i32_w]; rfl)
                          refine take_ (i := 28) (N := some 40) (v := ?_) (a' := ?_) x3q29 rfl rfl (take_ofW HT_.out HW_.out (by kernel_rfl)) (fun _ _ _ h => h) (Or.inl ⟨by rfl, ?_⟩) hHeld ?_ ?_
                          rotate_left; (· rintro w' ⟨s0, s1, s2, s3⟩; go_simp; with_reducible rfl); rotate_left; (· simp only [Act.put, x3sa, x3sz, x3ss, i64_w, i32_w]; rfl)
                          refine pure_ (i := 29) (N := some 41) (v := ?_) (a' := ?_) x3q30 rfl rfl (any_of HT_.out (by kernel_rfl)) (fun _ _ _ h => h) (Or.inl ⟨by rfl, ?_⟩) ?_ ?_
                          rotate_left; (· intro w'; go_simp; with_reducible rfl); rotate_left; (· simp only [Act.put, x3sa, x3sz, x3ss, i64_w, i32_w]; rfl)
                          refine pure_ (i := 30) (N := some 42) (v := ?_) (a' := ?_) x3q31 rfl rfl (any_of HT_.out (by kernel_rfl)) (fun _ _ _ h => h) (Or.inl ⟨by rfl, ?_⟩) ?_ ?_
                          rotate_left; (· intro w'; go_simp; with_reducible rfl); rotate_left; (· simp only [Act.put, x3sa, x3sz, x3ss, i64_w, i32_w]; rfl)
                          refine pure_ (i := 31) (N := some 43) (v := ?_) (a' := ?_) x3q32 rfl rfl (any_of HT_.out (by kernel_rfl)) (fun _ _ _ h => h) (Or.inl ⟨by rfl, ?_⟩) ?_ ?_
                          rotate_left; (· intro w'; go_simp; with_reducible rfl); rotate_left; (· simp only [Act.put, x3sa, x3sz, x3ss, i64_w, i32_w]; rfl)
                          refine pure_ (i := 32) (N := some 44) (v := ?_) (a' := ?_) x3q33 rfl rfl (any_of HT_.out (by kernel_rfl)) (fun _ _ _ h => h) (Or.inl ⟨by rfl, ?_⟩) ?_ ?_
                          rotate_left; (· intro w'; go_simp; with_reducible rfl); rotate_left; (· simp only [Act.put, x3sa, x3sz, x3ss, i64_w, i32_w]; rfl)
                          refine done_ (done_of HT_.out (by kernel_rfl)) ?_
                          try go_wp2
                          go_ret
                          exact ⟨by first | rfl | (simp [errW_none, errW_some] <;> rfl) | (simp only [← hji15]; first | rfl | (simp [errW_none, errW_some] <;> rfl)) | (simp [*, errW_none, errW_some] <;> rfl), by repeat (first | (with_reducible first | exact HB.out | apply below_alloc | apply pw_below_drewN | apply below_drew1 | refine below_set ?_ GE102.out) | exact HB.out)⟩
                        · rw [if_neg c18] at H
                          have c18b0 : decide (((rd_T62 l0 x7_1).f0) < (wrap64 (((rd_T62 l0 (ji15)).f1) + 2))) = false := decide_eq_false c18
                          clear c18
                          have H' := Aside0.mk H
                          clear H
                          have p101 : 0 ≤ (x7_1 : Int) := of_decide_eq_true (by first | (with_reducible assumption) | assumption)
                          have q101 : x7_1 < (l0.length : Int) := of_decide_eq_true (by first | (with_reducible assumption) | assumption)
                          obtain ⟨ad101, e101, hx101_0, hx101_1⟩ := at_T62 HR0.out x7_1 p101 q101
                          cases e101
                          replace hx101_0 := (HB.out.cell (World.block_lt_of_cell? w _ hx101_0)).trans hx101_0
                          replace hx101_1 := (HB.out.cell (World.block_lt_of_cell? w _ hx101_1)).trans hx101_1
                          replace p101 := eq_true p101
                          replace q101 := eq_true q101
                          try go_wp2_with (first | ((with_reducible refine gate_dst (N := 4) rfl ?_); refine box_event ?hg (N := 4) ?hd (cs := #[.int .i64 0, .int .i64 0]) (t := 62) ?hr ?_; (case hd => rfl); (case hg => rfl); (case hr => first | (go_simp; done) | (go_simp; rfl)); intro gb102 hg w23 hbox hb; have n0_ := Aside0.mk (below_step (by repeat (first | (with_reducible first | exact HB.out | apply below_alloc | apply pw_below_drewN | apply below_drew1) | exact HB.out)) hb); have n1_ := Aside0.mk (hbox); have n2_ := Aside0.mk ((by rw [hg]; exact (below_size (by repeat (first | (with_reducible first | exact HB.out | apply below_alloc | apply pw_below_drewN | apply below_drew1) | exact HB.out))) : w.heap.size ≤ gb102)); have n3_ := Aside0.mk ((by rw [hg]; exact (below_size (by repeat (first | (with_reducible first | exact HB.out | apply below_alloc | apply pw_below_drewN | apply below_drew1) | exact HB.out))) : w.heap.size ≤ gb102)); clear HB; have HB := n0_; have BK102 := n1_; have GW102 := n2_; have GE102 := n3_; clear n0_ n1_ n2_ n3_; clear hb hbox hg; have hcz24_0 : w23.cell? ⟨gb102, 0, none⟩ = some (.int .i64 0) := (blk_cell BK102.out 0).trans rfl; have hcz24_1 : w23.cell? ⟨gb102, 1, none⟩ = some (.int .i64 0) := (blk_cell BK102.out 1).trans rfl; have hfz24_0 := blk_frozen BK102.out 0; have hfz24_1 := blk_frozen BK102.out 1))
                          have n0_ : Aside0 (((w23.setCell ⟨gb102, 0, none⟩ (.int .i64 ((rd_T62 l0 x7_1).f0))).setCell ⟨gb102, 1, none⟩ (.int .i64 ((rd_T62 l0 x7_1).f1))).heap[gb102]? = some (.cells #[.int .i64 ((rd_T62 l0 x7_1).f0), .int .i64 ((rd_T62 l0 x7_1).f1)] 62 (0, 0))) := ⟨by (with_reducible repeat (first | refine blk_drewN ?_ _ | refine blk_drew ?_ | refine blk_alloc ?_ _)); refine blk_put (cs := #[.int .i64 ((rd_T62 l0 x7_1).f0), .int .i64 0]) ?_ 1 _ rfl; (with_reducible repeat (first | refine blk_drewN ?_ _ | refine blk_drew ?_ | refine blk_alloc ?_ _)); refine blk_put (cs := #[.int .i64 0, .int .i64 0]) ?_ 0 _ rfl; (with_reducible repeat (first | refine blk_drewN ?_ _ | refine blk_drew ?_ | refine blk_alloc ?_ _)); exact BK102.out⟩
                          have n1_ : Aside0 (Below w.heap.size w ((w23.setCell ⟨gb102, 0, none⟩ (.int .i64 ((rd_T62 l0 x7_1).f0))).setCell ⟨gb102, 1, none⟩ (.int .i64 ((rd_T62 l0 x7_1).f1)))) := ⟨by repeat (first | (with_reducible first | exact HB.out | apply below_alloc | apply pw_below_drewN | apply below_drew1 | refine below_set ?_ GE102.out) | exact HB.out)⟩
                          (try clear BK102)
                          (try clear HB)
                          generalize ((w23.setCell ⟨gb102, 0, none⟩ (.int .i64 ((rd_T62 l0 x7_1).f0))).setCell ⟨gb102, 1, none⟩ (.int .i64 ((rd_T62 l0 x7_1).f1))) = w25 at n0_ n1_ ⊢
                          have BK102 := n0_
                          have HB := n1_
                          clear n0_ n1_
                          have n0_ := Aside0.mk (blk_drew BK102.out)
                          have n1_ := Aside0.mk (below_drew1 HB.out)
                          clear BK102
                          clear HB
                          have BK102 := n0_
                          have HB := n1_
                          clear n0_ n1_
                          have p105 : 0 ≤ ((ji15) : Int) := of_decide_eq_true (by first | (with_reducible assumption) | assumption)
                          have q105 : (ji15) < (l0.length : Int) := of_decide_eq_true (by first | (with_reducible assumption) | assumption)
                          obtain ⟨ad105, e105, hx105_0, hx105_1⟩ := at_T62 HR0.out (ji15) p105 q105
                          have hw105_1 := hx105_1
                          have hw105_0 := hx105_0
                          obtain rfl : ad101 = ad105 := (by injection e105)
                          replace hx105_0 := (HB.out.cell (World.block_lt_of_cell? w _ hx105_0)).trans hx105_0
                          replace hx105_1 := (HB.out.cell (World.block_lt_of_cell? w _ hx105_1)).trans hx105_1
                          replace p105 := eq_true p105
                          replace q105 := eq_true q105
                          refine start_ (n := 33) (S := fun w' => w'.cell? ⟨gb102, 0, none⟩ = some (.int .i64 ((rd_T62 l0 x7_1).f0)) ∧ w'.cell? ⟨gb102, 1, none⟩ = some (.int .i64 ((rd_T62 l0 x7_1).f1)) ∧ w'.cell? (ad101.add (((ji15)).toNat * 2)) = some (.int .i64 ((rd_T62 l0 (ji15)).f0)) ∧ w'.cell? ⟨(ad101.add (((ji15)).toNat * 2)).block, (ad101.add (((ji15)).toNat * 2)).off + 1, none⟩ = some (.int .i64 ((rd_T62 l0 (ji15)).f1))) (ds := []) x3q0 (by kernel_rfl) rfl rfl ⟨(blk_cell BK102.out 0).trans rfl, (blk_cell BK102.out 1).trans rfl, ((HB.out.cell (World.block_lt_of_cell? w _ hw105_0)).trans hw105_0), ((HB.out.cell (World.block_lt_of_cell? w _ hw105_1)).trans hw105_1)⟩ (fun hHeld => ?_); refine with_tabW dom_right.tab4 dom_right.bits4 (fun HT_ HW_ => ?_)
                          generalize w25.drew = w26 at BK102 HB hx105_0 hx105_1 hHeld ⊢
                          refine pure_ (i := 0) (N := some 12) (v := ?_) (a' := ?_) x3q1 rfl rfl (any_of HT_.out (by kernel_rfl)) (fun _ _ _ h => h) (Or.inl ⟨by rfl, ?_⟩) ?_ ?_
                          rotate_left; (· intro w'; go_simp; with_reducible rfl); rotate_left; (· simp only [Act.put, x3sa, x3sz, x3ss, i64_w, i32_w]; rfl)
                          refine take_ (i := 1) (N := some 13) (v := ?_) (a' := ?_) x3q2 rfl rfl (take_ofW HT_.out HW_.out (by kernel_rfl)) (fun _ _ _ h => h) (Or.inl ⟨by rfl, ?_⟩) hHeld ?_ ?_
                          rotate_left; (· rintro w' ⟨s0, s1, s2, s3⟩; go_simp; with_reducible rfl); rotate_left; (· simp only [Act.put, x3sa, x3sz, x3ss, i64_w, i32_w]; rfl)
                          refine one_ (i := 2) (N := some 14) x3q3 rfl rfl (one_of HT_.out (by kernel_rfl)) (by decide) (fun K hK => ?_)
                          refine goes_ Try.func50 (by kernel_rfl) rfl #[.int .i64 ((rd_T62 l0 x7_1).f0)] (by rfl) rfl rfl (by (try simp only [List.map_toArray, List.map_cons, List.map_nil]); first | done | rfl | (simp only [List.length_drop, List.length_take]; rfl)) ?_
                          with_reducible refine (dom_value.calls ((rd_T62 l0 x7_1).f0) true _ A5.out).mono ?_
                          rintro e w' ⟨rfl, ⟨nd, rfl⟩⟩
                          refine ⟨_, rfl, ?_⟩
                          refine hK.out _ _ ⟨(blk_cell BK102.out 0).trans rfl, (blk_cell BK102.out 1).trans rfl, ((HB.out.cell (World.block_lt_of_cell? w _ hw105_0)).trans hw105_0), ((HB.out.cell (World.block_lt_of_cell? w _ hw105_1)).trans hw105_1)⟩ (fun hHeld => ?_)
                          clear hK K
                          refine norm_ (a' := ?_) ?_ ?_
                          rotate_left
                          · show Act.put _ (some 14) _ = _
                            simp only [Act.put, x3sa, x3sz, x3ss, i64_w, i32_w]
                            rfl
                          refine pure_ (i := 3) (N := some 15) (v := ?_) (a' := ?_) x3q4 rfl rfl (any_of HT_.out (by kernel_rfl)) (fun _ _ _ h => h) (Or.inl ⟨by rfl, ?_⟩) ?_ ?_
                          rotate_left; (· intro w'; go_simp; with_reducible rfl); rotate_left; (· simp only [Act.put, x3sa, x3sz, x3ss, i64_w, i32_w]; rfl)
                          refine pure_ (i := 4) (N := some 16) (v := ?_) (a' := ?_) x3q5 rfl rfl (any_of HT_.out (by kernel_rfl)) (fun _ _ _ h => h) (Or.inl ⟨by rfl, ?_⟩) ?_ ?_
                          rotate_left; (· intro w'; go_simp; with_reducible rfl); rotate_left; (· simp only [Act.put, x3sa, x3sz, x3ss, i64_w, i32_w]; rfl)
                          refine pure_ (i := 5) (N := some 17) (v := ?_) (a' := ?_) x3q6 rfl rfl (any_of HT_.out (by kernel_rfl)) (fun _ _ _ h => h) (Or.inl ⟨by rfl, ?_⟩) ?_ ?_
                          rotate_left; (· intro w'; go_simp; with_reducible rfl); rotate_left; (· simp only [Act.put, x3sa, x3sz, x3ss, i64_w, i32_w]; rfl)
                          refine take_ (i := 6) (N := some 18) (v := ?_) (a' := ?_) x3q7 rfl rfl (take_ofW HT_.out HW_.out (by kernel_rfl)) (fun _ _ _ h => h) (Or.inl ⟨by rfl, ?_⟩) hHeld ?_ ?_
                          rotate_left; (· rintro w' ⟨s0, s1, s2, s3⟩; go_simp; with_reducible rfl); rotate_left; (· simp only [Act.put, x3sa, x3sz, x3ss, i64_w, i32_w]; rfl)
                          refine one_ (i := 7) (N := some 19) x3q8 rfl rfl (one_of HT_.out (by kernel_rfl)) (by decide) (fun K hK => ?_)
                          refine goes_ Try.func50 (by kernel_rfl) rfl #[.int .i64 ((rd_T62 l0 x7_1).f1)] (by rfl) rfl rfl (by (try simp only [List.map_toArray, List.map_cons, List.map_nil]); first | done | rfl | (simp only [List.length_drop, List.length_take]; rfl)) ?_
                          with_reducible refine (dom_value.calls ((rd_T62 l0 x7_1).f1) true _ A7.out).mono ?_
                          rintro e w' ⟨rfl, ⟨nd, rfl⟩⟩
                          refine ⟨_, rfl, ?_⟩
                          refine hK.out _ _ ⟨(blk_cell BK102.out 0).trans rfl, (blk_cell BK102.out 1).trans rfl, ((HB.out.cell (World.block_lt_of_cell? w _ hw105_0)).trans hw105_0), ((HB.out.cell (World.block_lt_of_cell? w _ hw105_1)).trans hw105_1)⟩ (fun hHeld => ?_)
                          clear hK K
                          refine norm_ (a' := ?_) ?_ ?_
                          rotate_left
                          · show Act.put _ (some 19) _ = _
                            simp only [Act.put, x3sa, x3sz, x3ss, i64_w, i32_w]
                            rfl
                          refine pure_ (i := 8) (N := some 20) (v := ?_) (a' := ?_) x3q9 rfl rfl (any_of HT_.out (by kernel_rfl)) (fun _ _ _ h => h) (Or.inl ⟨by rfl, ?_⟩) ?_ ?_
                          rotate_left; (· intro w'; go_simp; with_reducible rfl); rotate_left; (· simp only [Act.put, x3sa, x3sz, x3ss, i64_w, i32_w]; rfl)
                          refine pure_ (i := 9) (N := some 21) (v := ?_) (a' := ?_) x3q10 rfl rfl (any_of HT_.out (by kernel_rfl)) (fun _ _ _ h => h) (Or.inl ⟨by rfl, ?_⟩) ?_ ?_
                          rotate_left; (· intro w'; go_simp; with_reducible rfl); rotate_left; (· simp only [Act.put, x3sa, x3sz, x3ss, i64_w, i32_w]; rfl)
                          refine pure_ (i := 10) (N := some 22) (v := ?_) (a' := ?_) x3q11 rfl rfl (any_of HT_.out (by kernel_rfl)) (fun _ _ _ h => h) (Or.inl ⟨by rfl, ?_⟩) ?_ ?_
                          rotate_left; (· intro w'; go_simp; with_reducible rfl); rotate_left; (· simp only [Act.put, x3sa, x3sz, x3ss, i64_w, i32_w]; rfl)
                          refine pure_ (i := 11) (N := some 23) (v := ?_) (a' := ?_) x3q12 rfl rfl (any_of HT_.out (by kernel_rfl)) (fun _ _ _ h => h) (Or.inl ⟨by rfl, ?_⟩) ?_ ?_
                          rotate_left; (· intro w'; go_simp; with_reducible rfl); rotate_left; (· simp only [Act.put, x3sa, x3sz, x3ss, i64_w, i32_w]; rfl)
                          refine pure_ (i := 13) (N := some 25) (v := ?_) (a' := ?_) x3q13 rfl rfl (any_of HT_.out (by kernel_rfl)) (fun _ _ _ h => h) (Or.inl ⟨by rfl, ?_⟩) ?_ ?_
                          rotate_left; (· intro w'; go_simp; with_reducible rfl); rotate_left; (· simp only [Act.put, x3sa, x3sz, x3ss, i64_w, i32_w]; rfl)
                          refine take_ (i := 12) (N := some 24) (v := ?_) (a' := ?_) x3q14 rfl rfl (take_ofW HT_.out HW_.out (by kernel_rfl)) (fun _ _ _ h => h) (Or.inl ⟨by rfl, ?_⟩) hHeld ?_ ?_
                          rotate_left; (· rintro w' ⟨s0, s1, s2, s3⟩; go_simp; with_reducible rfl); rotate_left; (· simp only [Act.put, x3sa, x3sz, x3ss, i64_w, i32_w]; rfl)
                          refine take_ (i := 14) (N := some 26) (v := ?_) (a' := ?_) x3q15 rfl rfl (take_ofW HT_.out HW_.out (by kernel_rfl)) (fun _ _ _ h => h) (Or.inl ⟨by rfl, ?_⟩) hHeld ?_ ?_
                          rotate_left; (· rintro w' ⟨s0, s1, s2, s3⟩; go_simp; with_reducible rfl); rotate_left; (· simp only [Act.put, x3sa, x3sz, x3ss, i64_w, i32_w]; rfl)
                          refine pure_ (i := 15) (N := some 27) (v := ?_) (a' := ?_) x3q16 rfl rfl (any_of HT_.out (by kernel_rfl)) (fun _ _ _ h => h) (Or.inl ⟨by rfl, ?_⟩) ?_ ?_
                          rotate_left; (· intro w'; go_simp; with_reducible rfl); rotate_left; (· simp only [Act.put, x3sa, x3sz, x3ss, i64_w, i32_w]; rfl)
                          refine pure_ (i := 16) (N := some 28) (v := ?_) (a' := ?_) x3q17 rfl rfl (any_of HT_.out (by kernel_rfl)) (fun _ _ _ h => h) (Or.inl ⟨by rfl, ?_⟩) ?_ ?_
                          rotate_left; (· intro w'; go_simp; with_reducible rfl); rotate_left; (· simp only [Act.put, x3sa, x3sz, x3ss, i64_w, i32_w]; rfl)
                          refine pure_ (i := 17) (N := some 29) (v := ?_) (a' := ?_) x3q18 rfl rfl (any_of HT_.out (by kernel_rfl)) (fun _ _ _ h => h) (Or.inl ⟨by rfl, ?_⟩) ?_ ?_
                          rotate_left; (· intro w'; go_simp; with_reducible rfl); rotate_left; (· simp only [Act.put, x3sa, x3sz, x3ss, i64_w, i32_w]; rfl)
                          refine pure_ (i := 18) (N := some 30) (v := ?_) (a' := ?_) x3q19 rfl rfl (any_of HT_.out (by kernel_rfl)) (fun _ _ _ h => h) (Or.inl ⟨by rfl, ?_⟩) ?_ ?_
                          rotate_left; (· intro w'; go_simp; with_reducible rfl); rotate_left; (· simp only [Act.put, x3sa, x3sz, x3ss, i64_w, i32_w]; rfl)
                          refine pure_ (i := 19) (N := some 31) (v := ?_) (a' := ?_) x3q20 rfl rfl (any_of HT_.out (by kernel_rfl)) (fun _ _ _ h => h) (Or.inl ⟨by rfl, ?_⟩) ?_ ?_
                          rotate_left; (· intro w'; go_simp; with_reducible rfl); rotate_left; (· simp only [Act.put, x3sa, x3sz, x3ss, i64_w, i32_w]; rfl)
                          refine pure_ (i := 20) (N := some 32) (v := ?_) (a' := ?_) x3q21 rfl rfl (any_of HT_.out (by kernel_rfl)) (fun _ _ _ h => h) (Or.inl ⟨by rfl, ?_⟩) ?_ ?_
                          rotate_left; (· intro w'; go_simp; with_reducible rfl); rotate_left; (· simp only [Act.put, x3sa, x3sz, x3ss, i64_w, i32_w]; rfl)
                          refine pure_ (i := 21) (N := some 33) (v := ?_) (a' := ?_) x3q22 rfl rfl (any_of HT_.out (by kernel_rfl)) (fun _ _ _ h => h) (Or.inl ⟨by rfl, ?_⟩) ?_ ?_
                          rotate_left; (· intro w'; go_simp; with_reducible rfl); rotate_left; (· simp only [Act.put, x3sa, x3sz, x3ss, i64_w, i32_w]; rfl)
                          refine pure_ (i := 23) (N := some 35) (v := ?_) (a' := ?_) x3q34 rfl rfl (any_of HT_.out (by kernel_rfl)) (fun _ _ _ h => h) (Or.inl ⟨by rfl, ?_⟩) ?_ ?_
                          rotate_left; (· intro w'; go_simp; with_reducible rfl); rotate_left; (· simp only [Act.put, x3sa, x3sz, x3ss, i64_w, i32_w]; rfl)
                          refine pure_ (i := 24) (N := some 36) (v := ?_) (a' := ?_) x3q35 rfl rfl (any_of HT_.out (by kernel_rfl)) (fun _ _ _ h => h) (Or.inl ⟨by rfl, ?_⟩) ?_ ?_
                          rotate_left; (· intro w'; go_simp; with_reducible rfl); rotate_left; (· simp only [Act.put, x3sa, x3sz, x3ss, i64_w, i32_w]; rfl)
                          refine pure_ (i := 25) (N := some 37) (v := ?_) (a' := ?_) x3q36 rfl rfl (any_of HT_.out (by kernel_rfl)) (fun _ _ _ h => h) (Or.inl ⟨by rfl, ?_⟩) ?_ ?_
                          rotate_left; (· intro w'; go_simp; with_reducible rfl); rotate_left; (· simp only [Act.put, x3sa, x3sz, x3ss, i64_w, i32_w]; rfl)
                          refine pure_ (i := 26) (N := some 38) (v := ?_) (a' := ?_) x3q37 rfl rfl (any_of HT_.out (by kernel_rfl)) (fun _ _ _ h => h) (Or.inl ⟨by rfl, ?_⟩) ?_ ?_
                          rotate_left; (· intro w'; go_simp; with_reducible rfl); rotate_left; (· simp only [Act.put, x3sa, x3sz, x3ss, i64_w, i32_w]; rfl)
                          refine pure_ (i := 27) (N := some 39) (v := ?_) (a' := ?_) x3q38 rfl rfl (any_of HT_.out (by kernel_rfl)) (fun _ _ _ h => h) (Or.inl ⟨by rfl, ?_⟩) ?_ ?_
                          rotate_left; (· intro w'; go_simp; with_reducible rfl); rotate_left; (· simp only [Act.put, x3sa, x3sz, x3ss, i64_w, i32_w]; rfl)
                          refine take_ (i := 22) (N := some 34) (v := ?_) (a' := ?_) x3q28 rfl rfl (take_ofW HT_.out HW_.out (by kernel_rfl)) (fun _ _ _ h => h) (Or.inl ⟨by rfl, ?_⟩) hHeld ?_ ?_
                          rotate_left; (· rintro w' ⟨s0, s1, s2, s3⟩; go_simp; with_reducible rfl); rotate_left; (· simp only [Act.put, x3sa, x3sz, x3ss, i64_w, i32_w]; rfl)
                          refine take_ (i := 28) (N := some 40) (v := ?_) (a' := ?_) x3q29 rfl rfl (take_ofW HT_.out HW_.out (by kernel_rfl)) (fun _ _ _ h => h) (Or.inl ⟨by rfl, ?_⟩) hHeld ?_ ?_
                          rotate_left; (· rintro w' ⟨s0, s1, s2, s3⟩; go_simp; with_reducible rfl); rotate_left; (· simp only [Act.put, x3sa, x3sz, x3ss, i64_w, i32_w]; rfl)
                          refine pure_ (i := 29) (N := some 41) (v := ?_) (a' := ?_) x3q30 rfl rfl (any_of HT_.out (by kernel_rfl)) (fun _ _ _ h => h) (Or.inl ⟨by rfl, ?_⟩) ?_ ?_
                          rotate_left; (· intro w'; go_simp; with_reducible rfl); rotate_left; (· simp only [Act.put, x3sa, x3sz, x3ss, i64_w, i32_w]; rfl)
                          refine pure_ (i := 30) (N := some 42) (v := ?_) (a' := ?_) x3q31 rfl rfl (any_of HT_.out (by kernel_rfl)) (fun _ _ _ h => h) (Or.inl ⟨by rfl, ?_⟩) ?_ ?_
                          rotate_left; (· intro w'; go_simp; with_reducible rfl); rotate_left; (· simp only [Act.put, x3sa, x3sz, x3ss, i64_w, i32_w]; rfl)
                          refine pure_ (i := 31) (N := some 43) (v := ?_) (a' := ?_) x3q32 rfl rfl (any_of HT_.out (by kernel_rfl)) (fun _ _ _ h => h) (Or.inl ⟨by rfl, ?_⟩) ?_ ?_
                          rotate_left; (· intro w'; go_simp; with_reducible rfl); rotate_left; (· simp only [Act.put, x3sa, x3sz, x3ss, i64_w, i32_w]; rfl)
                          refine pure_ (i := 32) (N := some 44) (v := ?_) (a' := ?_) x3q33 rfl rfl (any_of HT_.out (by kernel_rfl)) (fun _ _ _ h => h) (Or.inl ⟨by rfl, ?_⟩) ?_ ?_
                          rotate_left; (· intro w'; go_simp; with_reducible rfl); rotate_left; (· simp only [Act.put, x3sa, x3sz, x3ss, i64_w, i32_w]; rfl)
                          refine done_ (done_of HT_.out (by kernel_rfl)) ?_
                          try go_wp2
                          go_roundg k1
                          case measure => have := HK1.out; omega
                          case rel => exact ⟨(wrap64 (x7_1 + 1)), (by first | rfl | (simp; done) | (simp [*]; done)), H', ⟨by have := HK1.out; omega⟩, ⟨by repeat (first | (with_reducible first | exact HB.out | apply below_alloc | apply pw_below_drewN | apply below_drew1 | refine below_set ?_ GE102.out) | exact HB.out)⟩⟩
                      · rw [if_neg c17] at H
                        exact absurd H (by simp)
                    · rw [if_neg c16] at H
                      exact absurd H (by simp)
                  · rw [if_neg c14] at H
                    have c14b0 : decide (0 < x7_1) = false := decide_eq_false c14
                    clear c14
                    have H' := Aside0.mk H
                    clear H
                    have p101 : 0 ≤ (x7_1 : Int) := of_decide_eq_true (by first | (with_reducible assumption) | assumption)
                    have q101 : x7_1 < (l0.length : Int) := of_decide_eq_true (by first | (with_reducible assumption) | assumption)
                    obtain ⟨ad101, e101, hx101_0, hx101_1⟩ := at_T62 HR0.out x7_1 p101 q101
                    cases e101
                    replace hx101_0 := (HB.out.cell (World.block_lt_of_cell? w _ hx101_0)).trans hx101_0
                    replace hx101_1 := (HB.out.cell (World.block_lt_of_cell? w _ hx101_1)).trans hx101_1
                    replace p101 := eq_true p101
                    replace q101 := eq_true q101
                    try go_wp2_with (first | ((with_reducible refine gate_dst (N := 4) rfl ?_); refine box_event ?hg (N := 4) ?hd (cs := #[.int .i64 0, .int .i64 0]) (t := 62) ?hr ?_; (case hd => rfl); (case hg => rfl); (case hr => first | (go_simp; done) | (go_simp; rfl)); intro gb102 hg w27 hbox hb; have n0_ := Aside0.mk (below_step (by repeat (first | (with_reducible first | exact HB.out | apply below_alloc | apply pw_below_drewN | apply below_drew1) | exact HB.out)) hb); have n1_ := Aside0.mk (hbox); have n2_ := Aside0.mk ((by rw [hg]; exact (below_size (by repeat (first | (with_reducible first | exact HB.out | apply below_alloc | apply pw_below_drewN | apply below_drew1) | exact HB.out))) : w.heap.size ≤ gb102)); have n3_ := Aside0.mk ((by rw [hg]; exact (below_size (by repeat (first | (with_reducible first | exact HB.out | apply below_alloc | apply pw_below_drewN | apply below_drew1) | exact HB.out))) : w.heap.size ≤ gb102)); clear HB; have HB := n0_; have BK102 := n1_; have GW102 := n2_; have GE102 := n3_; clear n0_ n1_ n2_ n3_; clear hb hbox hg; have hcz28_0 : w27.cell? ⟨gb102, 0, none⟩ = some (.int .i64 0) := (blk_cell BK102.out 0).trans rfl; have hcz28_1 : w27.cell? ⟨gb102, 1, none⟩ = some (.int .i64 0) := (blk_cell BK102.out 1).trans rfl; have hfz28_0 := blk_frozen BK102.out 0; have hfz28_1 := blk_frozen BK102.out 1))
                    have n0_ : Aside0 (((w27.setCell ⟨gb102, 0, none⟩ (.int .i64 ((rd_T62 l0 x7_1).f0))).setCell ⟨gb102, 1, none⟩ (.int .i64 ((rd_T62 l0 x7_1).f1))).heap[gb102]? = some (.cells #[.int .i64 ((rd_T62 l0 x7_1).f0), .int .i64 ((rd_T62 l0 x7_1).f1)] 62 (0, 0))) := ⟨by (with_reducible repeat (first | refine blk_drewN ?_ _ | refine blk_drew ?_ | refine blk_alloc ?_ _)); refine blk_put (cs := #[.int .i64 ((rd_T62 l0 x7_1).f0), .int .i64 0]) ?_ 1 _ rfl; (with_reducible repeat (first | refine blk_drewN ?_ _ | refine blk_drew ?_ | refine blk_alloc ?_ _)); refine blk_put (cs := #[.int .i64 0, .int .i64 0]) ?_ 0 _ rfl; (with_reducible repeat (first | refine blk_drewN ?_ _ | refine blk_drew ?_ | refine blk_alloc ?_ _)); exact BK102.out⟩
                    have n1_ : Aside0 (Below w.heap.size w ((w27.setCell ⟨gb102, 0, none⟩ (.int .i64 ((rd_T62 l0 x7_1).f0))).setCell ⟨gb102, 1, none⟩ (.int .i64 ((rd_T62 l0 x7_1).f1)))) := ⟨by repeat (first | (with_reducible first | exact HB.out | apply below_alloc | apply pw_below_drewN | apply below_drew1 | refine below_set ?_ GE102.out) | exact HB.out)⟩
                    (try clear BK102)
                    (try clear HB)
                    generalize ((w27.setCell ⟨gb102, 0, none⟩ (.int .i64 ((rd_T62 l0 x7_1).f0))).setCell ⟨gb102, 1, none⟩ (.int .i64 ((rd_T62 l0 x7_1).f1))) = w29 at n0_ n1_ ⊢
                    have BK102 := n0_
                    have HB := n1_
                    clear n0_ n1_
                    have n0_ := Aside0.mk (blk_drew BK102.out)
                    have n1_ := Aside0.mk (below_drew1 HB.out)
                    clear BK102
                    clear HB
                    have BK102 := n0_
                    have HB := n1_
                    clear n0_ n1_
                    refine start_ (n := 33) (S := fun w' => w'.cell? ⟨gb102, 0, none⟩ = some (.int .i64 ((rd_T62 l0 x7_1).f0)) ∧ w'.cell? ⟨gb102, 1, none⟩ = some (.int .i64 ((rd_T62 l0 x7_1).f1))) (ds := []) x3q0 (by kernel_rfl) rfl rfl ⟨(blk_cell BK102.out 0).trans rfl, (blk_cell BK102.out 1).trans rfl⟩ (fun hHeld => ?_); refine with_tabW dom_right.tab4 dom_right.bits4 (fun HT_ HW_ => ?_)
                    generalize w29.drew = w30 at BK102 HB hHeld ⊢
                    refine pure_ (i := 0) (N := some 12) (v := ?_) (a' := ?_) x3q1 rfl rfl (any_of HT_.out (by kernel_rfl)) (fun _ _ _ h => h) (Or.inl ⟨by rfl, ?_⟩) ?_ ?_
                    rotate_left; (· intro w'; go_simp; with_reducible rfl); rotate_left; (· simp only [Act.put, x3sa, x3sz, x3ss, i64_w, i32_w]; rfl)
                    refine take_ (i := 1) (N := some 13) (v := ?_) (a' := ?_) x3q2 rfl rfl (take_ofW HT_.out HW_.out (by kernel_rfl)) (fun _ _ _ h => h) (Or.inl ⟨by rfl, ?_⟩) hHeld ?_ ?_
                    rotate_left; (· rintro w' ⟨s0, s1⟩; go_simp; with_reducible rfl); rotate_left; (· simp only [Act.put, x3sa, x3sz, x3ss, i64_w, i32_w]; rfl)
                    refine one_ (i := 2) (N := some 14) x3q3 rfl rfl (one_of HT_.out (by kernel_rfl)) (by decide) (fun K hK => ?_)
                    refine goes_ Try.func50 (by kernel_rfl) rfl #[.int .i64 ((rd_T62 l0 x7_1).f0)] (by rfl) rfl rfl (by (try simp only [List.map_toArray, List.map_cons, List.map_nil]); first | done | rfl | (simp only [List.length_drop, List.length_take]; rfl)) ?_
                    with_reducible refine (dom_value.calls ((rd_T62 l0 x7_1).f0) true _ A5.out).mono ?_
                    rintro e w' ⟨rfl, ⟨nd, rfl⟩⟩
                    refine ⟨_, rfl, ?_⟩
                    refine hK.out _ _ ⟨(blk_cell BK102.out 0).trans rfl, (blk_cell BK102.out 1).trans rfl⟩ (fun hHeld => ?_)
                    clear hK K
                    refine norm_ (a' := ?_) ?_ ?_
                    rotate_left
                    · show Act.put _ (some 14) _ = _
                      simp only [Act.put, x3sa, x3sz, x3ss, i64_w, i32_w]
                      rfl
                    refine pure_ (i := 3) (N := some 15) (v := ?_) (a' := ?_) x3q4 rfl rfl (any_of HT_.out (by kernel_rfl)) (fun _ _ _ h => h) (Or.inl ⟨by rfl, ?_⟩) ?_ ?_
                    rotate_left; (· intro w'; go_simp; with_reducible rfl); rotate_left; (· simp only [Act.put, x3sa, x3sz, x3ss, i64_w, i32_w]; rfl)
                    refine pure_ (i := 4) (N := some 16) (v := ?_) (a' := ?_) x3q5 rfl rfl (any_of HT_.out (by kernel_rfl)) (fun _ _ _ h => h) (Or.inl ⟨by rfl, ?_⟩) ?_ ?_
                    rotate_left; (· intro w'; go_simp; with_reducible rfl); rotate_left; (· simp only [Act.put, x3sa, x3sz, x3ss, i64_w, i32_w]; rfl)
                    refine pure_ (i := 5) (N := some 17) (v := ?_) (a' := ?_) x3q6 rfl rfl (any_of HT_.out (by kernel_rfl)) (fun _ _ _ h => h) (Or.inl ⟨by rfl, ?_⟩) ?_ ?_
                    rotate_left; (· intro w'; go_simp; with_reducible rfl); rotate_left; (· simp only [Act.put, x3sa, x3sz, x3ss, i64_w, i32_w]; rfl)
                    refine take_ (i := 6) (N := some 18) (v := ?_) (a' := ?_) x3q7 rfl rfl (take_ofW HT_.out HW_.out (by kernel_rfl)) (fun _ _ _ h => h) (Or.inl ⟨by rfl, ?_⟩) hHeld ?_ ?_
                    rotate_left; (· rintro w' ⟨s0, s1⟩; go_simp; with_reducible rfl); rotate_left; (· simp only [Act.put, x3sa, x3sz, x3ss, i64_w, i32_w]; rfl)
                    refine one_ (i := 7) (N := some 19) x3q8 rfl rfl (one_of HT_.out (by kernel_rfl)) (by decide) (fun K hK => ?_)
                    refine goes_ Try.func50 (by kernel_rfl) rfl #[.int .i64 ((rd_T62 l0 x7_1).f1)] (by rfl) rfl rfl (by (try simp only [List.map_toArray, List.map_cons, List.map_nil]); first | done | rfl | (simp only [List.length_drop, List.length_take]; rfl)) ?_
                    with_reducible refine (dom_value.calls ((rd_T62 l0 x7_1).f1) true _ A7.out).mono ?_
                    rintro e w' ⟨rfl, ⟨nd, rfl⟩⟩
                    refine ⟨_, rfl, ?_⟩
                    refine hK.out _ _ ⟨(blk_cell BK102.out 0).trans rfl, (blk_cell BK102.out 1).trans rfl⟩ (fun hHeld => ?_)
                    clear hK K
                    refine norm_ (a' := ?_) ?_ ?_
                    rotate_left
                    · show Act.put _ (some 19) _ = _
                      simp only [Act.put, x3sa, x3sz, x3ss, i64_w, i32_w]
                      rfl
                    refine pure_ (i := 8) (N := some 20) (v := ?_) (a' := ?_) x3q9 rfl rfl (any_of HT_.out (by kernel_rfl)) (fun _ _ _ h => h) (Or.inl ⟨by rfl, ?_⟩) ?_ ?_
                    rotate_left; (· intro w'; go_simp; with_reducible rfl); rotate_left; (· simp only [Act.put, x3sa, x3sz, x3ss, i64_w, i32_w]; rfl)
                    refine pure_ (i := 9) (N := some 21) (v := ?_) (a' := ?_) x3q10 rfl rfl (any_of HT_.out (by kernel_rfl)) (fun _ _ _ h => h) (Or.inl ⟨by rfl, ?_⟩) ?_ ?_
                    rotate_left; (· intro w'; go_simp; with_reducible rfl); rotate_left; (· simp only [Act.put, x3sa, x3sz, x3ss, i64_w, i32_w]; rfl)
                    refine pure_ (i := 10) (N := some 22) (v := ?_) (a' := ?_) x3q11 rfl rfl (any_of HT_.out (by kernel_rfl)) (fun _ _ _ h => h) (Or.inl ⟨by rfl, ?_⟩) ?_ ?_
                    rotate_left; (· intro w'; go_simp; with_reducible rfl); rotate_left; (· simp only [Act.put, x3sa, x3sz, x3ss, i64_w, i32_w]; rfl)
                    refine pure_ (i := 11) (N := some 23) (v := ?_) (a' := ?_) x3q12 rfl rfl (any_of HT_.out (by kernel_rfl)) (fun _ _ _ h => h) (Or.inl ⟨by rfl, ?_⟩) ?_ ?_
                    rotate_left; (· intro w'; go_simp; with_reducible rfl); rotate_left; (· simp only [Act.put, x3sa, x3sz, x3ss, i64_w, i32_w]; rfl)
                    refine pure_ (i := 13) (N := some 25) (v := ?_) (a' := ?_) x3q13 rfl rfl (any_of HT_.out (by kernel_rfl)) (fun _ _ _ h => h) (Or.inl ⟨by rfl, ?_⟩) ?_ ?_
                    rotate_left; (· intro w'; go_simp; with_reducible rfl); rotate_left; (· simp only [Act.put, x3sa, x3sz, x3ss, i64_w, i32_w]; rfl)
                    refine take_ (i := 12) (N := some 24) (v := ?_) (a' := ?_) x3q14 rfl rfl (take_ofW HT_.out HW_.out (by kernel_rfl)) (fun _ _ _ h => h) (Or.inl ⟨by rfl, ?_⟩) hHeld ?_ ?_
                    rotate_left; (· rintro w' ⟨s0, s1⟩; go_simp; with_reducible rfl); rotate_left; (· simp only [Act.put, x3sa, x3sz, x3ss, i64_w, i32_w]; rfl)
                    refine take_ (i := 14) (N := some 26) (v := ?_) (a' := ?_) x3q15 rfl rfl (take_ofW HT_.out HW_.out (by kernel_rfl)) (fun _ _ _ h => h) (Or.inl ⟨by rfl, ?_⟩) hHeld ?_ ?_
                    rotate_left; (· rintro w' ⟨s0, s1⟩; go_simp; with_reducible rfl); rotate_left; (· simp only [Act.put, x3sa, x3sz, x3ss, i64_w, i32_w]; rfl)
                    refine pure_ (i := 15) (N := some 27) (v := ?_) (a' := ?_) x3q16 rfl rfl (any_of HT_.out (by kernel_rfl)) (fun _ _ _ h => h) (Or.inl ⟨by rfl, ?_⟩) ?_ ?_
                    rotate_left; (· intro w'; go_simp; with_reducible rfl); rotate_left; (· simp only [Act.put, x3sa, x3sz, x3ss, i64_w, i32_w]; rfl)
                    refine pure_ (i := 16) (N := some 28) (v := ?_) (a' := ?_) x3q17 rfl rfl (any_of HT_.out (by kernel_rfl)) (fun _ _ _ h => h) (Or.inl ⟨by rfl, ?_⟩) ?_ ?_
                    rotate_left; (· intro w'; go_simp; with_reducible rfl); rotate_left; (· simp only [Act.put, x3sa, x3sz, x3ss, i64_w, i32_w]; rfl)
                    refine pure_ (i := 17) (N := some 29) (v := ?_) (a' := ?_) x3q18 rfl rfl (any_of HT_.out (by kernel_rfl)) (fun _ _ _ h => h) (Or.inl ⟨by rfl, ?_⟩) ?_ ?_
                    rotate_left; (· intro w'; go_simp; with_reducible rfl); rotate_left; (· simp only [Act.put, x3sa, x3sz, x3ss, i64_w, i32_w]; rfl)
                    refine pure_ (i := 18) (N := some 30) (v := ?_) (a' := ?_) x3q19 rfl rfl (any_of HT_.out (by kernel_rfl)) (fun _ _ _ h => h) (Or.inl ⟨by rfl, ?_⟩) ?_ ?_
                    rotate_left; (· intro w'; go_simp; with_reducible rfl); rotate_left; (· simp only [Act.put, x3sa, x3sz, x3ss, i64_w, i32_w]; rfl)
                    refine pure_ (i := 19) (N := some 31) (v := ?_) (a' := ?_) x3q20 rfl rfl (any_of HT_.out (by kernel_rfl)) (fun _ _ _ h => h) (Or.inl ⟨by rfl, ?_⟩) ?_ ?_
                    rotate_left; (· intro w'; go_simp; with_reducible rfl); rotate_left; (· simp only [Act.put, x3sa, x3sz, x3ss, i64_w, i32_w]; rfl)
                    refine pure_ (i := 20) (N := some 32) (v := ?_) (a' := ?_) x3q21 rfl rfl (any_of HT_.out (by kernel_rfl)) (fun _ _ _ h => h) (Or.inl ⟨by rfl, ?_⟩) ?_ ?_
                    rotate_left; (· intro w'; go_simp; with_reducible rfl); rotate_left; (· simp only [Act.put, x3sa, x3sz, x3ss, i64_w, i32_w]; rfl)
                    refine pure_ (i := 21) (N := some 33) (v := undef) (a' := ?_) x3q22 rfl rfl (any_of HT_.out (by kernel_rfl)) (fun _ _ _ h => h) (Or.inr ⟨by rfl, rfl⟩) ?_ ?_
                    rotate_left; (· simp only [Act.put, x3sa, x3sz, x3ss, i64_w, i32_w]; rfl)
                    refine pure_ (i := 22) (N := some 34) (v := undef) (a' := ?_) x3q23 rfl rfl (any_of HT_.out (by kernel_rfl)) (fun _ _ _ h => h) (Or.inr ⟨by rfl, rfl⟩) ?_ ?_
                    rotate_left; (· simp only [Act.put, x3sa, x3sz, x3ss, i64_w, i32_w]; rfl)
                    refine pure_ (i := 23) (N := some 35) (v := undef) (a' := ?_) x3q24 rfl rfl (any_of HT_.out (by kernel_rfl)) (fun _ _ _ h => h) (Or.inr ⟨by rfl, rfl⟩) ?_ ?_
                    rotate_left; (· simp only [Act.put, x3sa, x3sz, x3ss, i64_w, i32_w]; rfl)
                    refine pure_ (i := 24) (N := some 36) (v := undef) (a' := ?_) x3q25 rfl rfl (any_of HT_.out (by kernel_rfl)) (fun _ _ _ h => h) (Or.inr ⟨by rfl, rfl⟩) ?_ ?_
                    rotate_left; (· simp only [Act.put, x3sa, x3sz, x3ss, i64_w, i32_w]; rfl)
                    refine pure_ (i := 25) (N := some 37) (v := undef) (a' := ?_) x3q26 rfl rfl (any_of HT_.out (by kernel_rfl)) (fun _ _ _ h => h) (Or.inr ⟨by rfl, rfl⟩) ?_ ?_
                    rotate_left; (· simp only [Act.put, x3sa, x3sz, x3ss, i64_w, i32_w]; rfl)
                    refine pure_ (i := 26) (N := some 38) (v := undef) (a' := ?_) x3q27 rfl rfl (any_of HT_.out (by kernel_rfl)) (fun _ _ _ h => h) (Or.inr ⟨by rfl, rfl⟩) ?_ ?_
                    rotate_left; (· simp only [Act.put, x3sa, x3sz, x3ss, i64_w, i32_w]; rfl)
                    refine pure_ (i := 27) (N := some 39) (v := undef) (a' := ?_) x3q28 rfl rfl (any_of HT_.out (by kernel_rfl)) (fun _ _ _ h => h) (Or.inr ⟨by rfl, rfl⟩) ?_ ?_
                    rotate_left; (· simp only [Act.put, x3sa, x3sz, x3ss, i64_w, i32_w]; rfl)
                    refine pure_ (i := 28) (N := some 40) (v := undef) (a' := ?_) x3q29 rfl rfl (any_of HT_.out (by kernel_rfl)) (fun _ _ _ h => h) (Or.inr ⟨by rfl, rfl⟩) ?_ ?_
                    rotate_left; (· simp only [Act.put, x3sa, x3sz, x3ss, i64_w, i32_w]; rfl)
                    refine pure_ (i := 29) (N := some 41) (v := undef) (a' := ?_) x3q30 rfl rfl (any_of HT_.out (by kernel_rfl)) (fun _ _ _ h => h) (Or.inr ⟨by rfl, rfl⟩) ?_ ?_
                    rotate_left; (· simp only [Act.put, x3sa, x3sz, x3ss, i64_w, i32_w]; rfl)
                    refine pure_ (i := 30) (N := some 42) (v := undef) (a' := ?_) x3q31 rfl rfl (any_of HT_.out (by kernel_rfl)) (fun _ _ _ h => h) (Or.inr ⟨by rfl, rfl⟩) ?_ ?_
                    rotate_left; (· simp only [Act.put, x3sa, x3sz, x3ss, i64_w, i32_w]; rfl)
                    refine pure_ (i := 31) (N := some 43) (v := ?_) (a' := ?_) x3q32 rfl rfl (any_of HT_.out (by kernel_rfl)) (fun _ _ _ h => h) (Or.inl ⟨by rfl, ?_⟩) ?_ ?_
                    rotate_left; (· intro w'; go_simp; with_reducible rfl); rotate_left; (· simp only [Act.put, x3sa, x3sz, x3ss, i64_w, i32_w]; rfl)
                    refine pure_ (i := 32) (N := some 44) (v := ?_) (a' := ?_) x3q33 rfl rfl (any_of HT_.out (by kernel_rfl)) (fun _ _ _ h => h) (Or.inl ⟨by rfl, ?_⟩) ?_ ?_
                    rotate_left; (· intro w'; go_simp; with_reducible rfl); rotate_left; (· simp only [Act.put, x3sa, x3sz, x3ss, i64_w, i32_w]; rfl)
                    refine done_ (done_of HT_.out (by kernel_rfl)) ?_
                    try go_wp2
                    go_roundg k1
                    case measure => have := HK1.out; omega
                    case rel => exact ⟨(wrap64 (x7_1 + 1)), (by first | rfl | (simp; done) | (simp [*]; done)), H', ⟨by have := HK1.out; omega⟩, ⟨by repeat (first | (with_reducible first | exact HB.out | apply below_alloc | apply pw_below_drewN | apply below_drew1 | refine below_set ?_ GE102.out) | exact HB.out)⟩⟩
              · replace c8 := Bool.eq_false_iff.mpr c8
                subst c8
                have H1 : (some false) = some r := by rw [if_neg (show ¬ (false = true) by decide)] at H; exact H
                clear H
                have H := H1
                clear H1
                obtain rfl := Option.some.inj H
                have p101 : 0 ≤ (x7_1 : Int) := of_decide_eq_true (by first | (with_reducible assumption) | assumption)
                have q101 : x7_1 < (l0.length : Int) := of_decide_eq_true (by first | (with_reducible assumption) | assumption)
                obtain ⟨ad101, e101, hx101_0, hx101_1⟩ := at_T62 HR0.out x7_1 p101 q101
                cases e101
                replace hx101_0 := (HB.out.cell (World.block_lt_of_cell? w _ hx101_0)).trans hx101_0
                replace hx101_1 := (HB.out.cell (World.block_lt_of_cell? w _ hx101_1)).trans hx101_1
                replace p101 := eq_true p101
                replace q101 := eq_true q101
                try go_wp2_with (first | ((with_reducible refine gate_dst (N := 4) rfl ?_); refine box_event ?hg (N := 4) ?hd (cs := #[.int .i64 0, .int .i64 0]) (t := 62) ?hr ?_; (case hd => rfl); (case hg => rfl); (case hr => first | (go_simp; done) | (go_simp; rfl)); intro gb102 hg w31 hbox hb; have n0_ := Aside0.mk (below_step (by repeat (first | (with_reducible first | exact HB.out | apply below_alloc | apply pw_below_drewN | apply below_drew1) | exact HB.out)) hb); have n1_ := Aside0.mk (hbox); have n2_ := Aside0.mk ((by rw [hg]; exact (below_size (by repeat (first | (with_reducible first | exact HB.out | apply below_alloc | apply pw_below_drewN | apply below_drew1) | exact HB.out))) : w.heap.size ≤ gb102)); have n3_ := Aside0.mk ((by rw [hg]; exact (below_size (by repeat (first | (with_reducible first | exact HB.out | apply below_alloc | apply pw_below_drewN | apply below_drew1) | exact HB.out))) : w.heap.size ≤ gb102)); clear HB; have HB := n0_; have BK102 := n1_; have GW102 := n2_; have GE102 := n3_; clear n0_ n1_ n2_ n3_; clear hb hbox hg; have hcz32_0 : w31.cell? ⟨gb102, 0, none⟩ = some (.int .i64 0) := (blk_cell BK102.out 0).trans rfl; have hcz32_1 : w31.cell? ⟨gb102, 1, none⟩ = some (.int .i64 0) := (blk_cell BK102.out 1).trans rfl; have hfz32_0 := blk_frozen BK102.out 0; have hfz32_1 := blk_frozen BK102.out 1))
                have n0_ : Aside0 (((w31.setCell ⟨gb102, 0, none⟩ (.int .i64 ((rd_T62 l0 x7_1).f0))).setCell ⟨gb102, 1, none⟩ (.int .i64 ((rd_T62 l0 x7_1).f1))).heap[gb102]? = some (.cells #[.int .i64 ((rd_T62 l0 x7_1).f0), .int .i64 ((rd_T62 l0 x7_1).f1)] 62 (0, 0))) := ⟨by (with_reducible repeat (first | refine blk_drewN ?_ _ | refine blk_drew ?_ | refine blk_alloc ?_ _)); refine blk_put (cs := #[.int .i64 ((rd_T62 l0 x7_1).f0), .int .i64 0]) ?_ 1 _ rfl; (with_reducible repeat (first | refine blk_drewN ?_ _ | refine blk_drew ?_ | refine blk_alloc ?_ _)); refine blk_put (cs := #[.int .i64 0, .int .i64 0]) ?_ 0 _ rfl; (with_reducible repeat (first | refine blk_drewN ?_ _ | refine blk_drew ?_ | refine blk_alloc ?_ _)); exact BK102.out⟩
                have n1_ : Aside0 (Below w.heap.size w ((w31.setCell ⟨gb102, 0, none⟩ (.int .i64 ((rd_T62 l0 x7_1).f0))).setCell ⟨gb102, 1, none⟩ (.int .i64 ((rd_T62 l0 x7_1).f1)))) := ⟨by repeat (first | (with_reducible first | exact HB.out | apply below_alloc | apply pw_below_drewN | apply below_drew1 | refine below_set ?_ GE102.out) | exact HB.out)⟩
                (try clear BK102)
                (try clear HB)
                generalize ((w31.setCell ⟨gb102, 0, none⟩ (.int .i64 ((rd_T62 l0 x7_1).f0))).setCell ⟨gb102, 1, none⟩ (.int .i64 ((rd_T62 l0 x7_1).f1))) = w33 at n0_ n1_ ⊢
                have BK102 := n0_
                have HB := n1_
                clear n0_ n1_
                have n0_ := Aside0.mk (blk_drew BK102.out)
                have n1_ := Aside0.mk (below_drew1 HB.out)
                clear BK102
                clear HB
                have BK102 := n0_
                have HB := n1_
                clear n0_ n1_
                refine start_ (n := 33) (S := fun w' => w'.cell? ⟨gb102, 0, none⟩ = some (.int .i64 ((rd_T62 l0 x7_1).f0)) ∧ w'.cell? ⟨gb102, 1, none⟩ = some (.int .i64 ((rd_T62 l0 x7_1).f1))) (ds := []) x3q0 (by kernel_rfl) rfl rfl ⟨(blk_cell BK102.out 0).trans rfl, (blk_cell BK102.out 1).trans rfl⟩ (fun hHeld => ?_); refine with_tabW dom_right.tab4 dom_right.bits4 (fun HT_ HW_ => ?_)
                generalize w33.drew = w34 at BK102 HB hHeld ⊢
                refine pure_ (i := 0) (N := some 12) (v := ?_) (a' := ?_) x3q1 rfl rfl (any_of HT_.out (by kernel_rfl)) (fun _ _ _ h => h) (Or.inl ⟨by rfl, ?_⟩) ?_ ?_
                rotate_left; (· intro w'; go_simp; with_reducible rfl); rotate_left; (· simp only [Act.put, x3sa, x3sz, x3ss, i64_w, i32_w]; rfl)
                refine take_ (i := 1) (N := some 13) (v := ?_) (a' := ?_) x3q2 rfl rfl (take_ofW HT_.out HW_.out (by kernel_rfl)) (fun _ _ _ h => h) (Or.inl ⟨by rfl, ?_⟩) hHeld ?_ ?_
                rotate_left; (· rintro w' ⟨s0, s1⟩; go_simp; with_reducible rfl); rotate_left; (· simp only [Act.put, x3sa, x3sz, x3ss, i64_w, i32_w]; rfl)
                refine one_ (i := 2) (N := some 14) x3q3 rfl rfl (one_of HT_.out (by kernel_rfl)) (by decide) (fun K hK => ?_)
                refine goes_ Try.func50 (by kernel_rfl) rfl #[.int .i64 ((rd_T62 l0 x7_1).f0)] (by rfl) rfl rfl (by (try simp only [List.map_toArray, List.map_cons, List.map_nil]); first | done | rfl | (simp only [List.length_drop, List.length_take]; rfl)) ?_
                with_reducible refine (dom_value.calls ((rd_T62 l0 x7_1).f0) true _ A5.out).mono ?_
                rintro e w' ⟨rfl, ⟨nd, rfl⟩⟩
                refine ⟨_, rfl, ?_⟩
                refine hK.out _ _ ⟨(blk_cell BK102.out 0).trans rfl, (blk_cell BK102.out 1).trans rfl⟩ (fun hHeld => ?_)
                clear hK K
                refine norm_ (a' := ?_) ?_ ?_
                rotate_left
                · show Act.put _ (some 14) _ = _
                  simp only [Act.put, x3sa, x3sz, x3ss, i64_w, i32_w]
                  rfl
                refine pure_ (i := 3) (N := some 15) (v := ?_) (a' := ?_) x3q4 rfl rfl (any_of HT_.out (by kernel_rfl)) (fun _ _ _ h => h) (Or.inl ⟨by rfl, ?_⟩) ?_ ?_
                rotate_left; (· intro w'; go_simp; with_reducible rfl); rotate_left; (· simp only [Act.put, x3sa, x3sz, x3ss, i64_w, i32_w]; rfl)
                refine pure_ (i := 4) (N := some 16) (v := ?_) (a' := ?_) x3q5 rfl rfl (any_of HT_.out (by kernel_rfl)) (fun _ _ _ h => h) (Or.inl ⟨by rfl, ?_⟩) ?_ ?_
                rotate_left; (· intro w'; go_simp; with_reducible rfl); rotate_left; (· simp only [Act.put, x3sa, x3sz, x3ss, i64_w, i32_w]; rfl)
                refine pure_ (i := 5) (N := some 17) (v := ?_) (a' := ?_) x3q6 rfl rfl (any_of HT_.out (by kernel_rfl)) (fun _ _ _ h => h) (Or.inl ⟨by rfl, ?_⟩) ?_ ?_
                rotate_left; (· intro w'; go_simp; with_reducible rfl); rotate_left; (· simp only [Act.put, x3sa, x3sz, x3ss, i64_w, i32_w]; rfl)
                refine take_ (i := 6) (N := some 18) (v := ?_) (a' := ?_) x3q7 rfl rfl (take_ofW HT_.out HW_.out (by kernel_rfl)) (fun _ _ _ h => h) (Or.inl ⟨by rfl, ?_⟩) hHeld ?_ ?_
                rotate_left; (· rintro w' ⟨s0, s1⟩; go_simp; with_reducible rfl); rotate_left; (· simp only [Act.put, x3sa, x3sz, x3ss, i64_w, i32_w]; rfl)
                refine one_ (i := 7) (N := some 19) x3q8 rfl rfl (one_of HT_.out (by kernel_rfl)) (by decide) (fun K hK => ?_)
                refine goes_ Try.func50 (by kernel_rfl) rfl #[.int .i64 ((rd_T62 l0 x7_1).f1)] (by rfl) rfl rfl (by (try simp only [List.map_toArray, List.map_cons, List.map_nil]); first | done | rfl | (simp only [List.length_drop, List.length_take]; rfl)) ?_
                with_reducible refine (dom_value.calls ((rd_T62 l0 x7_1).f1) false _ A7.out).mono ?_
                rintro e w' ⟨rfl, ⟨nd, rfl⟩⟩
                refine ⟨_, rfl, ?_⟩
                refine hK.out _ _ ⟨(blk_cell BK102.out 0).trans rfl, (blk_cell BK102.out 1).trans rfl⟩ (fun hHeld => ?_)
                clear hK K
                refine norm_ (a' := ?_) ?_ ?_
                rotate_left
                · show Act.put _ (some 19) _ = _
                  simp only [Act.put, x3sa, x3sz, x3ss, i64_w, i32_w]
                  rfl
                refine pure_ (i := 8) (N := some 20) (v := ?_) (a' := ?_) x3q9 rfl rfl (any_of HT_.out (by kernel_rfl)) (fun _ _ _ h => h) (Or.inl ⟨by rfl, ?_⟩) ?_ ?_
                rotate_left; (· intro w'; go_simp; with_reducible rfl); rotate_left; (· simp only [Act.put, x3sa, x3sz, x3ss, i64_w, i32_w]; rfl)
                refine pure_ (i := 9) (N := some 21) (v := ?_) (a' := ?_) x3q10 rfl rfl (any_of HT_.out (by kernel_rfl)) (fun _ _ _ h => h) (Or.inl ⟨by rfl, ?_⟩) ?_ ?_
                rotate_left; (· intro w'; go_simp; with_reducible rfl); rotate_left; (· simp only [Act.put, x3sa, x3sz, x3ss, i64_w, i32_w]; rfl)
                refine pure_ (i := 10) (N := some 22) (v := ?_) (a' := ?_) x3q11 rfl rfl (any_of HT_.out (by kernel_rfl)) (fun _ _ _ h => h) (Or.inl ⟨by rfl, ?_⟩) ?_ ?_
                rotate_left; (· intro w'; go_simp; with_reducible rfl); rotate_left; (· simp only [Act.put, x3sa, x3sz, x3ss, i64_w, i32_w]; rfl)
                refine pure_ (i := 11) (N := some 23) (v := undef) (a' := ?_) x3q12 rfl rfl (any_of HT_.out (by kernel_rfl)) (fun _ _ _ h => h) (Or.inr ⟨by rfl, rfl⟩) ?_ ?_
                rotate_left; (· simp only [Act.put, x3sa, x3sz, x3ss, i64_w, i32_w]; rfl)
                refine pure_ (i := 12) (N := some 24) (v := undef) (a' := ?_) x3q39 rfl rfl (any_of HT_.out (by kernel_rfl)) (fun _ _ _ h => h) (Or.inr ⟨by rfl, rfl⟩) ?_ ?_
                rotate_left; (· simp only [Act.put, x3sa, x3sz, x3ss, i64_w, i32_w]; rfl)
                refine pure_ (i := 13) (N := some 25) (v := undef) (a' := ?_) x3q14 rfl rfl (any_of HT_.out (by kernel_rfl)) (fun _ _ _ h => h) (Or.inr ⟨by rfl, rfl⟩) ?_ ?_
                rotate_left; (· simp only [Act.put, x3sa, x3sz, x3ss, i64_w, i32_w]; rfl)
                refine pure_ (i := 14) (N := some 26) (v := undef) (a' := ?_) x3q15 rfl rfl (any_of HT_.out (by kernel_rfl)) (fun _ _ _ h => h) (Or.inr ⟨by rfl, rfl⟩) ?_ ?_
                rotate_left; (· simp only [Act.put, x3sa, x3sz, x3ss, i64_w, i32_w]; rfl)
                refine pure_ (i := 15) (N := some 27) (v := undef) (a' := ?_) x3q16 rfl rfl (any_of HT_.out (by kernel_rfl)) (fun _ _ _ h => h) (Or.inr ⟨by rfl, rfl⟩) ?_ ?_
                rotate_left; (· simp only [Act.put, x3sa, x3sz, x3ss, i64_w, i32_w]; rfl)
                refine pure_ (i := 16) (N := some 28) (v := ?_) (a' := ?_) x3q17 rfl rfl (any_of HT_.out (by kernel_rfl)) (fun _ _ _ h => h) (Or.inl ⟨by rfl, ?_⟩) ?_ ?_
                rotate_left; (· intro w'; go_simp; with_reducible rfl); rotate_left; (· simp only [Act.put, x3sa, x3sz, x3ss, i64_w, i32_w]; rfl)
                refine pure_ (i := 17) (N := some 29) (v := ?_) (a' := ?_) x3q18 rfl rfl (any_of HT_.out (by kernel_rfl)) (fun _ _ _ h => h) (Or.inl ⟨by rfl, ?_⟩) ?_ ?_
                rotate_left; (· intro w'; go_simp; with_reducible rfl); rotate_left; (· simp only [Act.put, x3sa, x3sz, x3ss, i64_w, i32_w]; rfl)
                refine pure_ (i := 18) (N := some 30) (v := undef) (a' := ?_) x3q19 rfl rfl (any_of HT_.out (by kernel_rfl)) (fun _ _ _ h => h) (Or.inr ⟨by rfl, rfl⟩) ?_ ?_
                rotate_left; (· simp only [Act.put, x3sa, x3sz, x3ss, i64_w, i32_w]; rfl)
                refine pure_ (i := 19) (N := some 31) (v := undef) (a' := ?_) x3q20 rfl rfl (any_of HT_.out (by kernel_rfl)) (fun _ _ _ h => h) (Or.inr ⟨by rfl, rfl⟩) ?_ ?_
                rotate_left; (· simp only [Act.put, x3sa, x3sz, x3ss, i64_w, i32_w]; rfl)
                refine pure_ (i := 20) (N := some 32) (v := undef) (a' := ?_) x3q21 rfl rfl (any_of HT_.out (by kernel_rfl)) (fun _ _ _ h => h) (Or.inr ⟨by rfl, rfl⟩) ?_ ?_
                rotate_left; (· simp only [Act.put, x3sa, x3sz, x3ss, i64_w, i32_w]; rfl)
                refine pure_ (i := 21) (N := some 33) (v := undef) (a' := ?_) x3q22 rfl rfl (any_of HT_.out (by kernel_rfl)) (fun _ _ _ h => h) (Or.inr ⟨by rfl, rfl⟩) ?_ ?_
                rotate_left; (· simp only [Act.put, x3sa, x3sz, x3ss, i64_w, i32_w]; rfl)
                refine pure_ (i := 22) (N := some 34) (v := undef) (a' := ?_) x3q23 rfl rfl (any_of HT_.out (by kernel_rfl)) (fun _ _ _ h => h) (Or.inr ⟨by rfl, rfl⟩) ?_ ?_
                rotate_left; (· simp only [Act.put, x3sa, x3sz, x3ss, i64_w, i32_w]; rfl)
                refine pure_ (i := 23) (N := some 35) (v := undef) (a' := ?_) x3q24 rfl rfl (any_of HT_.out (by kernel_rfl)) (fun _ _ _ h => h) (Or.inr ⟨by rfl, rfl⟩) ?_ ?_
                rotate_left; (· simp only [Act.put, x3sa, x3sz, x3ss, i64_w, i32_w]; rfl)
                refine pure_ (i := 24) (N := some 36) (v := undef) (a' := ?_) x3q25 rfl rfl (any_of HT_.out (by kernel_rfl)) (fun _ _ _ h => h) (Or.inr ⟨by rfl, rfl⟩) ?_ ?_
                rotate_left; (· simp only [Act.put, x3sa, x3sz, x3ss, i64_w, i32_w]; rfl)
                refine pure_ (i := 25) (N := some 37) (v := undef) (a' := ?_) x3q26 rfl rfl (any_of HT_.out (by kernel_rfl)) (fun _ _ _ h => h) (Or.inr ⟨by rfl, rfl⟩) ?_ ?_
                rotate_left; (· simp only [Act.put, x3sa, x3sz, x3ss, i64_w, i32_w]; rfl)
                refine pure_ (i := 26) (N := some 38) (v := undef) (a' := ?_) x3q27 rfl rfl (any_of HT_.out (by kernel_rfl)) (fun _ _ _ h => h) (Or.inr ⟨by rfl, rfl⟩) ?_ ?_
                rotate_left; (· simp only [Act.put, x3sa, x3sz, x3ss, i64_w, i32_w]; rfl)
                refine pure_ (i := 27) (N := some 39) (v := undef) (a' := ?_) x3q28 rfl rfl (any_of HT_.out (by kernel_rfl)) (fun _ _ _ h => h) (Or.inr ⟨by rfl, rfl⟩) ?_ ?_
                rotate_left; (· simp only [Act.put, x3sa, x3sz, x3ss, i64_w, i32_w]; rfl)
                refine pure_ (i := 28) (N := some 40) (v := undef) (a' := ?_) x3q29 rfl rfl (any_of HT_.out (by kernel_rfl)) (fun _ _ _ h => h) (Or.inr ⟨by rfl, rfl⟩) ?_ ?_
                rotate_left; (· simp only [Act.put, x3sa, x3sz, x3ss, i64_w, i32_w]; rfl)
                refine pure_ (i := 29) (N := some 41) (v := undef) (a' := ?_) x3q30 rfl rfl (any_of HT_.out (by kernel_rfl)) (fun _ _ _ h => h) (Or.inr ⟨by rfl, rfl⟩) ?_ ?_
                rotate_left; (· simp only [Act.put, x3sa, x3sz, x3ss, i64_w, i32_w]; rfl)
                refine pure_ (i := 30) (N := some 42) (v := undef) (a' := ?_) x3q31 rfl rfl (any_of HT_.out (by kernel_rfl)) (fun _ _ _ h => h) (Or.inr ⟨by rfl, rfl⟩) ?_ ?_
                rotate_left; (· simp only [Act.put, x3sa, x3sz, x3ss, i64_w, i32_w]; rfl)
                refine pure_ (i := 31) (N := some 43) (v := undef) (a' := ?_) x3q32 rfl rfl (any_of HT_.out (by kernel_rfl)) (fun _ _ _ h => h) (Or.inr ⟨by rfl, rfl⟩) ?_ ?_
                rotate_left; (· simp only [Act.put, x3sa, x3sz, x3ss, i64_w, i32_w]; rfl)
                refine pure_ (i := 32) (N := some 44) (v := ?_) (a' := ?_) x3q33 rfl rfl (any_of HT_.out (by kernel_rfl)) (fun _ _ _ h => h) (Or.inl ⟨by rfl, ?_⟩) ?_ ?_
                rotate_left; (· intro w'; go_simp; with_reducible rfl); rotate_left; (· simp only [Act.put, x3sa, x3sz, x3ss, i64_w, i32_w]; rfl)
                refine done_ (done_of HT_.out (by kernel_rfl)) ?_
                try go_wp2
                go_ret
                exact ⟨by first | rfl | (simp [errW_none, errW_some] <;> rfl) | (simp [*, errW_none, errW_some] <;> rfl), by repeat (first | (with_reducible first | exact HB.out | apply below_alloc | apply pw_below_drewN | apply below_drew1 | refine below_set ?_ GE102.out) | exact HB.out)⟩
            · replace c6 := Bool.eq_false_iff.mpr c6
              subst c6
              have H1 : (some false) = some r := by rw [if_neg (show ¬ (false = true) by decide)] at H; exact H
              clear H
              have H := H1
              clear H1
              obtain rfl := Option.some.inj H
              have p101 : 0 ≤ (x7_1 : Int) := of_decide_eq_true (by first | (with_reducible assumption) | assumption)
              have q101 : x7_1 < (l0.length : Int) := of_decide_eq_true (by first | (with_reducible assumption) | assumption)
              obtain ⟨ad101, e101, hx101_0, hx101_1⟩ := at_T62 HR0.out x7_1 p101 q101
              cases e101
              replace hx101_0 := (HB.out.cell (World.block_lt_of_cell? w _ hx101_0)).trans hx101_0
              replace hx101_1 := (HB.out.cell (World.block_lt_of_cell? w _ hx101_1)).trans hx101_1
              replace p101 := eq_true p101
              replace q101 := eq_true q101
              try go_wp2_with (first | ((with_reducible refine gate_dst (N := 4) rfl ?_); refine box_event ?hg (N := 4) ?hd (cs := #[.int .i64 0, .int .i64 0]) (t := 62) ?hr ?_; (case hd => rfl); (case hg => rfl); (case hr => first | (go_simp; done) | (go_simp; rfl)); intro gb102 hg w35 hbox hb; have n0_ := Aside0.mk (below_step (by repeat (first | (with_reducible first | exact HB.out | apply below_alloc | apply pw_below_drewN | apply below_drew1) | exact HB.out)) hb); have n1_ := Aside0.mk (hbox); have n2_ := Aside0.mk ((by rw [hg]; exact (below_size (by repeat (first | (with_reducible first | exact HB.out | apply below_alloc | apply pw_below_drewN | apply below_drew1) | exact HB.out))) : w.heap.size ≤ gb102)); have n3_ := Aside0.mk ((by rw [hg]; exact (below_size (by repeat (first | (with_reducible first | exact HB.out | apply below_alloc | apply pw_below_drewN | apply below_drew1) | exact HB.out))) : w.heap.size ≤ gb102)); clear HB; have HB := n0_; have BK102 := n1_; have GW102 := n2_; have GE102 := n3_; clear n0_ n1_ n2_ n3_; clear hb hbox hg; have hcz36_0 : w35.cell? ⟨gb102, 0, none⟩ = some (.int .i64 0) := (blk_cell BK102.out 0).trans rfl; have hcz36_1 : w35.cell? ⟨gb102, 1, none⟩ = some (.int .i64 0) := (blk_cell BK102.out 1).trans rfl; have hfz36_0 := blk_frozen BK102.out 0; have hfz36_1 := blk_frozen BK102.out 1))
              have n0_ : Aside0 (((w35.setCell ⟨gb102, 0, none⟩ (.int .i64 ((rd_T62 l0 x7_1).f0))).setCell ⟨gb102, 1, none⟩ (.int .i64 ((rd_T62 l0 x7_1).f1))).heap[gb102]? = some (.cells #[.int .i64 ((rd_T62 l0 x7_1).f0), .int .i64 ((rd_T62 l0 x7_1).f1)] 62 (0, 0))) := ⟨by (with_reducible repeat (first | refine blk_drewN ?_ _ | refine blk_drew ?_ | refine blk_alloc ?_ _)); refine blk_put (cs := #[.int .i64 ((rd_T62 l0 x7_1).f0), .int .i64 0]) ?_ 1 _ rfl; (with_reducible repeat (first | refine blk_drewN ?_ _ | refine blk_drew ?_ | refine blk_alloc ?_ _)); refine blk_put (cs := #[.int .i64 0, .int .i64 0]) ?_ 0 _ rfl; (with_reducible repeat (first | refine blk_drewN ?_ _ | refine blk_drew ?_ | refine blk_alloc ?_ _)); exact BK102.out⟩
              have n1_ : Aside0 (Below w.heap.size w ((w35.setCell ⟨gb102, 0, none⟩ (.int .i64 ((rd_T62 l0 x7_1).f0))).setCell ⟨gb102, 1, none⟩ (.int .i64 ((rd_T62 l0 x7_1).f1)))) := ⟨by repeat (first | (with_reducible first | exact HB.out | apply below_alloc | apply pw_below_drewN | apply below_drew1 | refine below_set ?_ GE102.out) | exact HB.out)⟩
              (try clear BK102)
              (try clear HB)
              generalize ((w35.setCell ⟨gb102, 0, none⟩ (.int .i64 ((rd_T62 l0 x7_1).f0))).setCell ⟨gb102, 1, none⟩ (.int .i64 ((rd_T62 l0 x7_1).f1))) = w37 at n0_ n1_ ⊢
              have BK102 := n0_
              have HB := n1_
              clear n0_ n1_
              have n0_ := Aside0.mk (blk_drew BK102.out)
              have n1_ := Aside0.mk (below_drew1 HB.out)
              clear BK102
              clear HB
              have BK102 := n0_
              have HB := n1_
              clear n0_ n1_
              refine start_ (n := 33) (S := fun w' => w'.cell? ⟨gb102, 0, none⟩ = some (.int .i64 ((rd_T62 l0 x7_1).f0)) ∧ w'.cell? ⟨gb102, 1, none⟩ = some (.int .i64 ((rd_T62 l0 x7_1).f1))) (ds := []) x3q0 (by kernel_rfl) rfl rfl ⟨(blk_cell BK102.out 0).trans rfl, (blk_cell BK102.out 1).trans rfl⟩ (fun hHeld => ?_); refine with_tabW dom_right.tab4 dom_right.bits4 (fun HT_ HW_ => ?_)
              generalize w37.drew = w38 at BK102 HB hHeld ⊢
              refine pure_ (i := 0) (N := some 12) (v := ?_) (a' := ?_) x3q1 rfl rfl (any_of HT_.out (by kernel_rfl)) (fun _ _ _ h => h) (Or.inl ⟨by rfl, ?_⟩) ?_ ?_
              rotate_left; (· intro w'; go_simp; with_reducible rfl); rotate_left; (· simp only [Act.put, x3sa, x3sz, x3ss, i64_w, i32_w]; rfl)
              refine take_ (i := 1) (N := some 13) (v := ?_) (a' := ?_) x3q2 rfl rfl (take_ofW HT_.out HW_.out (by kernel_rfl)) (fun _ _ _ h => h) (Or.inl ⟨by rfl, ?_⟩) hHeld ?_ ?_
              rotate_left; (· rintro w' ⟨s0, s1⟩; go_simp; with_reducible rfl); rotate_left; (· simp only [Act.put, x3sa, x3sz, x3ss, i64_w, i32_w]; rfl)
              refine one_ (i := 2) (N := some 14) x3q3 rfl rfl (one_of HT_.out (by kernel_rfl)) (by decide) (fun K hK => ?_)
              refine goes_ Try.func50 (by kernel_rfl) rfl #[.int .i64 ((rd_T62 l0 x7_1).f0)] (by rfl) rfl rfl (by (try simp only [List.map_toArray, List.map_cons, List.map_nil]); first | done | rfl | (simp only [List.length_drop, List.length_take]; rfl)) ?_
              with_reducible refine (dom_value.calls ((rd_T62 l0 x7_1).f0) false _ A5.out).mono ?_
              rintro e w' ⟨rfl, ⟨nd, rfl⟩⟩
              refine ⟨_, rfl, ?_⟩
              refine hK.out _ _ ⟨(blk_cell BK102.out 0).trans rfl, (blk_cell BK102.out 1).trans rfl⟩ (fun hHeld => ?_)
              clear hK K
              refine norm_ (a' := ?_) ?_ ?_
              rotate_left
              · show Act.put _ (some 14) _ = _
                simp only [Act.put, x3sa, x3sz, x3ss, i64_w, i32_w]
                rfl
              refine pure_ (i := 3) (N := some 15) (v := ?_) (a' := ?_) x3q4 rfl rfl (any_of HT_.out (by kernel_rfl)) (fun _ _ _ h => h) (Or.inl ⟨by rfl, ?_⟩) ?_ ?_
              rotate_left; (· intro w'; go_simp; with_reducible rfl); rotate_left; (· simp only [Act.put, x3sa, x3sz, x3ss, i64_w, i32_w]; rfl)
              refine pure_ (i := 4) (N := some 16) (v := ?_) (a' := ?_) x3q5 rfl rfl (any_of HT_.out (by kernel_rfl)) (fun _ _ _ h => h) (Or.inl ⟨by rfl, ?_⟩) ?_ ?_
              rotate_left; (· intro w'; go_simp; with_reducible rfl); rotate_left; (· simp only [Act.put, x3sa, x3sz, x3ss, i64_w, i32_w]; rfl)
              refine pure_ (i := 5) (N := some 17) (v := undef) (a' := ?_) x3q6 rfl rfl (any_of HT_.out (by kernel_rfl)) (fun _ _ _ h => h) (Or.inr ⟨by rfl, rfl⟩) ?_ ?_
              rotate_left; (· simp only [Act.put, x3sa, x3sz, x3ss, i64_w, i32_w]; rfl)
              refine pure_ (i := 6) (N := some 18) (v := undef) (a' := ?_) x3q7 rfl rfl (any_of HT_.out (by kernel_rfl)) (fun _ _ _ h => h) (Or.inr ⟨by rfl, rfl⟩) ?_ ?_
              rotate_left; (· simp only [Act.put, x3sa, x3sz, x3ss, i64_w, i32_w]; rfl)
              refine pure_ (i := 7) (N := some 19) (v := undef) (a' := ?_) x3q8 rfl rfl (any_of HT_.out (by kernel_rfl)) (fun _ _ _ h => h) (Or.inr ⟨by rfl, rfl⟩) ?_ ?_
              rotate_left; (· simp only [Act.put, x3sa, x3sz, x3ss, i64_w, i32_w]; rfl)
              refine pure_ (i := 8) (N := some 20) (v := undef) (a' := ?_) x3q9 rfl rfl (any_of HT_.out (by kernel_rfl)) (fun _ _ _ h => h) (Or.inr ⟨by rfl, rfl⟩) ?_ ?_
              rotate_left; (· simp only [Act.put, x3sa, x3sz, x3ss, i64_w, i32_w]; rfl)
              refine pure_ (i := 9) (N := some 21) (v := ?_) (a' := ?_) x3q10 rfl rfl (any_of HT_.out (by kernel_rfl)) (fun _ _ _ h => h) (Or.inl ⟨by rfl, ?_⟩) ?_ ?_
              rotate_left; (· intro w'; go_simp; with_reducible rfl); rotate_left; (· simp only [Act.put, x3sa, x3sz, x3ss, i64_w, i32_w]; rfl)
              refine pure_ (i := 10) (N := some 22) (v := ?_) (a' := ?_) x3q11 rfl rfl (any_of HT_.out (by kernel_rfl)) (fun _ _ _ h => h) (Or.inl ⟨by rfl, ?_⟩) ?_ ?_
              rotate_left; (· intro w'; go_simp; with_reducible rfl); rotate_left; (· simp only [Act.put, x3sa, x3sz, x3ss, i64_w, i32_w]; rfl)
              refine pure_ (i := 11) (N := some 23) (v := undef) (a' := ?_) x3q12 rfl rfl (any_of HT_.out (by kernel_rfl)) (fun _ _ _ h => h) (Or.inr ⟨by rfl, rfl⟩) ?_ ?_
              rotate_left; (· simp only [Act.put, x3sa, x3sz, x3ss, i64_w, i32_w]; rfl)
              refine pure_ (i := 12) (N := some 24) (v := undef) (a' := ?_) x3q39 rfl rfl (any_of HT_.out (by kernel_rfl)) (fun _ _ _ h => h) (Or.inr ⟨by rfl, rfl⟩) ?_ ?_
              rotate_left; (· simp only [Act.put, x3sa, x3sz, x3ss, i64_w, i32_w]; rfl)
              refine pure_ (i := 13) (N := some 25) (v := undef) (a' := ?_) x3q14 rfl rfl (any_of HT_.out (by kernel_rfl)) (fun _ _ _ h => h) (Or.inr ⟨by rfl, rfl⟩) ?_ ?_
              rotate_left; (· simp only [Act.put, x3sa, x3sz, x3ss, i64_w, i32_w]; rfl)
              refine pure_ (i := 14) (N := some 26) (v := undef) (a' := ?_) x3q15 rfl rfl (any_of HT_.out (by kernel_rfl)) (fun _ _ _ h => h) (Or.inr ⟨by rfl, rfl⟩) ?_ ?_
              rotate_left; (· simp only [Act.put, x3sa, x3sz, x3ss, i64_w, i32_w]; rfl)
              refine pure_ (i := 15) (N := some 27) (v := undef) (a' := ?_) x3q16 rfl rfl (any_of HT_.out (by kernel_rfl)) (fun _ _ _ h => h) (Or.inr ⟨by rfl, rfl⟩) ?_ ?_
              rotate_left; (· simp only [Act.put, x3sa, x3sz, x3ss, i64_w, i32_w]; rfl)
              refine pure_ (i := 16) (N := some 28) (v := ?_) (a' := ?_) x3q17 rfl rfl (any_of HT_.out (by kernel_rfl)) (fun _ _ _ h => h) (Or.inl ⟨by rfl, ?_⟩) ?_ ?_
              rotate_left; (· intro w'; go_simp; with_reducible rfl); rotate_left; (· simp only [Act.put, x3sa, x3sz, x3ss, i64_w, i32_w]; rfl)
              refine pure_ (i := 17) (N := some 29) (v := ?_) (a' := ?_) x3q18 rfl rfl (any_of HT_.out (by kernel_rfl)) (fun _ _ _ h => h) (Or.inl ⟨by rfl, ?_⟩) ?_ ?_
              rotate_left; (· intro w'; go_simp; with_reducible rfl); rotate_left; (· simp only [Act.put, x3sa, x3sz, x3ss, i64_w, i32_w]; rfl)
              refine pure_ (i := 18) (N := some 30) (v := undef) (a' := ?_) x3q19 rfl rfl (any_of HT_.out (by kernel_rfl)) (fun _ _ _ h => h) (Or.inr ⟨by rfl, rfl⟩) ?_ ?_
              rotate_left; (· simp only [Act.put, x3sa, x3sz, x3ss, i64_w, i32_w]; rfl)
              refine pure_ (i := 19) (N := some 31) (v := undef) (a' := ?_) x3q20 rfl rfl (any_of HT_.out (by kernel_rfl)) (fun _ _ _ h => h) (Or.inr ⟨by rfl, rfl⟩) ?_ ?_
              rotate_left; (· simp only [Act.put, x3sa, x3sz, x3ss, i64_w, i32_w]; rfl)
              refine pure_ (i := 20) (N := some 32) (v := undef) (a' := ?_) x3q21 rfl rfl (any_of HT_.out (by kernel_rfl)) (fun _ _ _ h => h) (Or.inr ⟨by rfl, rfl⟩) ?_ ?_
              rotate_left; (· simp only [Act.put, x3sa, x3sz, x3ss, i64_w, i32_w]; rfl)
              refine pure_ (i := 21) (N := some 33) (v := undef) (a' := ?_) x3q22 rfl rfl (any_of HT_.out (by kernel_rfl)) (fun _ _ _ h => h) (Or.inr ⟨by rfl, rfl⟩) ?_ ?_
              rotate_left; (· simp only [Act.put, x3sa, x3sz, x3ss, i64_w, i32_w]; rfl)
              refine pure_ (i := 22) (N := some 34) (v := undef) (a' := ?_) x3q23 rfl rfl (any_of HT_.out (by kernel_rfl)) (fun _ _ _ h => h) (Or.inr ⟨by rfl, rfl⟩) ?_ ?_
              rotate_left; (· simp only [Act.put, x3sa, x3sz, x3ss, i64_w, i32_w]; rfl)
              refine pure_ (i := 23) (N := some 35) (v := undef) (a' := ?_) x3q24 rfl rfl (any_of HT_.out (by kernel_rfl)) (fun _ _ _ h => h) (Or.inr ⟨by rfl, rfl⟩) ?_ ?_
              rotate_left; (· simp only [Act.put, x3sa, x3sz, x3ss, i64_w, i32_w]; rfl)
              refine pure_ (i := 24) (N := some 36) (v := undef) (a' := ?_) x3q25 rfl rfl (any_of HT_.out (by kernel_rfl)) (fun _ _ _ h => h) (Or.inr ⟨by rfl, rfl⟩) ?_ ?_
              rotate_left; (· simp only [Act.put, x3sa, x3sz, x3ss, i64_w, i32_w]; rfl)
              refine pure_ (i := 25) (N := some 37) (v := undef) (a' := ?_) x3q26 rfl rfl (any_of HT_.out (by kernel_rfl)) (fun _ _ _ h => h) (Or.inr ⟨by rfl, rfl⟩) ?_ ?_
              rotate_left; (· simp only [Act.put, x3sa, x3sz, x3ss, i64_w, i32_w]; rfl)
              refine pure_ (i := 26) (N := some 38) (v := undef) (a' := ?_) x3q27 rfl rfl (any_of HT_.out (by kernel_rfl)) (fun _ _ _ h => h) (Or.inr ⟨by rfl, rfl⟩) ?_ ?_
              rotate_left; (· simp only [Act.put, x3sa, x3sz, x3ss, i64_w, i32_w]; rfl)
              refine pure_ (i := 27) (N := some 39) (v := undef) (a' := ?_) x3q28 rfl rfl (any_of HT_.out (by kernel_rfl)) (fun _ _ _ h => h) (Or.inr ⟨by rfl, rfl⟩) ?_ ?_
              rotate_left; (· simp only [Act.put, x3sa, x3sz, x3ss, i64_w, i32_w]; rfl)
              refine pure_ (i := 28) (N := some 40) (v := undef) (a' := ?_) x3q29 rfl rfl (any_of HT_.out (by kernel_rfl)) (fun _ _ _ h => h) (Or.inr ⟨by rfl, rfl⟩) ?_ ?_
              rotate_left; (· simp only [Act.put, x3sa, x3sz, x3ss, i64_w, i32_w]; rfl)
              refine pure_ (i := 29) (N := some 41) (v := undef) (a' := ?_) x3q30 rfl rfl (any_of HT_.out (by kernel_rfl)) (fun _ _ _ h => h) (Or.inr ⟨by rfl, rfl⟩) ?_ ?_
              rotate_left; (· simp only [Act.put, x3sa, x3sz, x3ss, i64_w, i32_w]; rfl)
              refine pure_ (i := 30) (N := some 42) (v := undef) (a' := ?_) x3q31 rfl rfl (any_of HT_.out (by kernel_rfl)) (fun _ _ _ h => h) (Or.inr ⟨by rfl, rfl⟩) ?_ ?_
              rotate_left; (· simp only [Act.put, x3sa, x3sz, x3ss, i64_w, i32_w]; rfl)
              refine pure_ (i := 31) (N := some 43) (v := undef) (a' := ?_) x3q32 rfl rfl (any_of HT_.out (by kernel_rfl)) (fun _ _ _ h => h) (Or.inr ⟨by rfl, rfl⟩) ?_ ?_
              rotate_left; (· simp only [Act.put, x3sa, x3sz, x3ss, i64_w, i32_w]; rfl)
              refine pure_ (i := 32) (N := some 44) (v := ?_) (a' := ?_) x3q33 rfl rfl (any_of HT_.out (by kernel_rfl)) (fun _ _ _ h => h) (Or.inl ⟨by rfl, ?_⟩) ?_ ?_
              rotate_left; (· intro w'; go_simp; with_reducible rfl); rotate_left; (· simp only [Act.put, x3sa, x3sz, x3ss, i64_w, i32_w]; rfl)
              refine done_ (done_of HT_.out (by kernel_rfl)) ?_
              try go_wp2
              go_ret
              exact ⟨by first | rfl | (simp [errW_none, errW_some] <;> rfl) | (simp [*, errW_none, errW_some] <;> rfl), by repeat (first | (with_reducible first | exact HB.out | apply below_alloc | apply pw_below_drewN | apply below_drew1 | refine below_set ?_ GE102.out) | exact HB.out)⟩
          · rw [if_neg c4] at H
            exact absurd H (by simp)
        · rw [if_neg c3] at H
          exact absurd H (by simp)
      · rw [if_neg c2] at H
        have c2b0 : decide (x7_1 < (l0.length : Int)) = false := decide_eq_false c2
        clear c2
        obtain rfl := Option.some.inj H
        go_wp2
        go_ret
        exact ⟨by first | rfl | (simp [errW_none, errW_some] <;> rfl) | (simp [*, errW_none, errW_some] <;> rfl), by repeat (first | (with_reducible first | exact HB.out | apply below_alloc | apply pw_below_drewN | apply below_drew1) | exact HB.out)⟩

end Go.Proofs.Ytcjachhdoogbaaa.PT
