-- Written by a program of this session (the kit's print, some functions given by hand).
import Derived.Test.YtcjachhdoogbaaaPTx0
namespace Go.Proofs.Ytcjachhdoogbaaa.PT
open Go.RowKit Go.Proofs.YtcjachhdoogbaaaW.PrintWords Go.Proofs.YtcjachhdoogbaaaW.PrintLast Go.Proofs.YtcjachhdoogbaaaW.PrintMore
attribute [local go_sem] max2_int min2_int max_two min_two max_three min_three max_four min_four   -- for this text's walks alone
set_option linter.unusedVariables false
set_option linter.unusedSimpArgs false

abbrev x5q0 : Array Bool := #[false, false, false, false, false, false, false, false, false, false, false, false, false, false, false, false, false, false]
abbrev x5q1 : Array Bool := #[true, false, false, false, false, false, false, false, false, false, false, false, false, false, false, false, false, false]
abbrev x5q2 : Array Bool := #[true, true, false, false, false, false, false, false, false, false, false, false, false, false, false, false, false, false]
abbrev x5q3 : Array Bool := #[true, true, true, false, false, false, false, false, false, false, false, false, false, false, false, false, false, false]
abbrev x5q4 : Array Bool := #[true, true, true, true, false, false, false, false, false, false, false, false, false, false, false, false, false, false]
abbrev x5q5 : Array Bool := #[true, true, true, true, true, false, false, false, false, false, false, false, false, false, false, false, false, false]
abbrev x5q6 : Array Bool := #[true, true, true, true, true, true, false, false, false, false, false, false, false, false, false, false, false, false]
abbrev x5q7 : Array Bool := #[true, true, true, true, true, true, true, false, false, false, false, false, false, false, false, false, false, false]
abbrev x5q8 : Array Bool := #[true, true, true, true, true, true, true, true, false, false, false, false, false, false, false, false, false, false]
abbrev x5q9 : Array Bool := #[true, true, true, true, true, true, true, true, true, false, false, false, false, false, false, false, false, false]
abbrev x5q10 : Array Bool := #[true, true, true, true, true, true, true, true, true, true, false, false, false, false, false, false, false, false]
abbrev x5q11 : Array Bool := #[true, true, true, true, true, true, true, true, true, true, true, false, false, false, false, false, false, false]
abbrev x5q12 : Array Bool := #[true, true, true, true, true, true, true, true, true, true, true, true, false, false, false, false, false, false]
abbrev x5q13 : Array Bool := #[true, true, true, true, true, true, true, true, true, true, true, true, true, false, false, false, false, false]
abbrev x5q14 : Array Bool := #[true, true, true, true, true, true, true, true, true, true, true, true, true, true, false, false, false, false]
abbrev x5q15 : Array Bool := #[true, true, true, true, true, true, true, true, true, true, true, true, true, true, true, false, false, false]
abbrev x5q16 : Array Bool := #[true, true, true, true, true, true, true, true, true, true, true, true, true, true, true, true, false, false]
abbrev x5q17 : Array Bool := #[true, true, true, true, true, true, true, true, true, true, true, true, true, true, true, true, true, false]
abbrev x5q18 : Array Bool := #[true, true, true, true, true, true, true, true, true, true, true, true, true, true, true, true, true, true]
abbrev x5q19 : Array Bool := #[false, false, false, false, false, false, false, false, false, false, false, false, false]
abbrev x5q20 : Array Bool := #[true, false, false, false, false, false, false, false, false, false, false, false, false]
abbrev x5q21 : Array Bool := #[true, true, false, false, false, false, false, false, false, false, false, false, false]
abbrev x5q22 : Array Bool := #[true, true, true, false, false, false, false, false, false, false, false, false, false]
abbrev x5q23 : Array Bool := #[true, true, true, true, false, false, false, false, false, false, false, false, false]
abbrev x5q24 : Array Bool := #[true, true, true, true, false, true, false, false, false, false, false, false, false]
abbrev x5q25 : Array Bool := #[true, true, true, true, false, true, true, false, false, false, false, false, false]
abbrev x5q26 : Array Bool := #[true, true, true, true, false, true, true, true, false, false, false, false, false]
abbrev x5q27 : Array Bool := #[true, true, true, true, true, true, true, true, false, false, false, false, false]
abbrev x5q28 : Array Bool := #[true, true, true, true, true, true, true, true, true, false, false, false, false]
abbrev x5q29 : Array Bool := #[true, true, true, true, true, true, true, true, true, true, false, false, false]
abbrev x5q30 : Array Bool := #[true, true, true, true, true, true, true, true, true, true, true, false, false]
abbrev x5q31 : Array Bool := #[true, true, true, true, true, true, true, true, true, true, true, true, false]
abbrev x5q32 : Array Bool := #[true, true, true, true, true, true, true, true, true, true, true, true, true]
abbrev x5q33 : Array Bool := #[true, true, true, true, true, true, true, true, true, true, false, true, false, false, false, false, false, false]
abbrev x5q34 : Array Bool := #[true, true, true, true, true, true, true, true, true, true, false, true, true, false, false, false, false, false]
abbrev x5q35 : Array Bool := #[true, true, true, true, true, true, true, true, true, true, false, true, true, true, false, false, false, false]
theorem x5sa {α : Type} (l : List α) (i : Nat) (a : α) : l.toArray.setIfInBounds i a = (l.set i a).toArray := by simp
theorem x5sz {α : Type} {l : List α} {a b : α} : (a :: l).set 0 b = b :: l := by simp
theorem x5ss {α : Type} {l : List α} {i : Nat} {a b : α} : (a :: l).set (i + 1) b = a :: l.set i b := by simp
/-! ### secateurref02_Pack: function 40 -/
def secateurref02_Pack.l0 : Nat → List Int → List (S62) → Int → Int → Option ((List (S62)))
  | 0, _, _, _, _ => none
  | k + 1, x0, x3, x4, x5 => if x5 < (x0.length : Int) then (if (wrap64 (x5 + 1)) = (x0.length : Int) then (if 0 ≤ x4 then (if x4 < (x0.length : Int) then (if 0 ≤ x5 then (if x3.length < 8796093022208 then (secateurref02_Pack.l0 k x0 (x3 ++ [(⟨rd x0 x4, rd x0 x5⟩ : S62)]) (wrap64 (x5 + 1)) (wrap64 (x5 + 1))) else (none)) else (none)) else (none)) else (none)) else (if 0 ≤ (wrap64 (x5 + 1)) then (if (wrap64 (x5 + 1)) < (x0.length : Int) then (if 0 ≤ x5 then (if (rd x0 (wrap64 (x5 + 1))) = (wrap64 ((rd x0 x5) + 1)) then (secateurref02_Pack.l0 k x0 x3 x4 (wrap64 (x5 + 1))) else (if 0 ≤ x4 then (if x4 < (x0.length : Int) then (if x3.length < 8796093022208 then (secateurref02_Pack.l0 k x0 (x3 ++ [(⟨rd x0 x4, rd x0 x5⟩ : S62)]) (wrap64 (x5 + 1)) (wrap64 (x5 + 1))) else (none)) else (none)) else (none))) else (none)) else (none)) else (none))) else (some x3)
def secateurref02_Pack.f (k : Nat) (l0 : List Int) : Option ((List (S62))) := secateurref02_Pack.l0 k l0 (([] : List (S62))) 0 0
theorem secateurref02_Pack.mono_l : ∀ k, (∀ y0 y1 y2 y3, LeO (secateurref02_Pack.l0 k y0 y1 y2 y3) (secateurref02_Pack.l0 (k + 1) y0 y1 y2 y3))
  | 0 => fun _ _ _ _ r h => by simp [secateurref02_Pack.l0] at h
  | k + 1 => by
    have ih0 := secateurref02_Pack.mono_l k
    · intro y0 y1 y2 y3
      unfold secateurref02_Pack.l0
      repeat' first
      | (with_reducible exact ih0 _ _ _ _)
      | (with_reducible exact LeO.refl _)
      | (with_reducible exact LeO.none _)
      | (with_reducible refine LeO.ite ?_ ?_)
      | (with_reducible refine LeO.bind ?_ (fun _ => ?_))
      | exact ih0 _ _ _ _
      | exact LeO.none _
      | refine LeO.ite ?_ ?_
      | refine LeO.bind ?_ (fun _ => ?_)
theorem secateurref02_Pack.mono : ∀ a0 k, LeO (secateurref02_Pack.f k a0) (secateurref02_Pack.f (k + 1) a0) := by
  intro a0 k
  have ih0 := secateurref02_Pack.mono_l k
  unfold secateurref02_Pack.f
  repeat' first
      | (with_reducible exact ih0 _ _ _ _)
      | (with_reducible exact LeO.refl _)
      | (with_reducible exact LeO.none _)
      | (with_reducible refine LeO.ite ?_ ?_)
      | (with_reducible refine LeO.bind ?_ (fun _ => ?_))
      | exact ih0 _ _ _ _
      | exact LeO.none _
      | refine LeO.ite ?_ ?_
      | refine LeO.bind ?_ (fun _ => ?_)
def secateurref02_Pack.T5 : Bool × List (List Nat × List Nat) := (true, [([], []), ([0], [0]), ([], []), ([2], [2]), ([1, 3], [1, 3]), ([4], [4]), ([5], [5]), ([5], [5]), ([7, 5], [5, 7]), ([6, 8, 5], [5, 6, 8]), ([9, 5], [5, 9]), ([5], [5]), ([5], [5]), ([11, 12, 5], [5, 11, 12]), ([13, 5], [5, 13]), ([14, 5], [5, 14]), ([10, 15, 5], [5, 10, 15]), ([5, 16], [5, 16])])
def secateurref02_Pack.B5 : List Nat := [0, 1, 0, 4, 15, 31, 63, 63, 191, 511, 1023, 63, 63, 6207, 14399, 30783, 65535, 131071]
theorem secateurref02_Pack.tab5 : rtab .any (opsOf Try.f40 5) = secateurref02_Pack.T5 := by kernel_rfl
theorem secateurref02_Pack.bits5 : waitsOk secateurref02_Pack.T5.2 secateurref02_Pack.B5 = true := by kernel_rfl
def secateurref02_Pack.T6 : Bool × List (List Nat × List Nat) := (true, [([], []), ([], []), ([], []), ([1, 2], [1, 2]), ([3], [3]), ([], []), ([], []), ([5, 6], [5, 6]), ([7], [7]), ([4, 8], [4, 8]), ([9], [9]), ([0, 10], [0, 10]), ([11, 11, 0, 1, 2, 3, 4, 5, 6, 7, 8, 9, 10, 11], [0, 11])])
def secateurref02_Pack.B6 : List Nat := [0, 0, 0, 6, 14, 0, 0, 96, 224, 510, 1022, 2047, 4095]
theorem secateurref02_Pack.tab6 : rtab .any (opsOf Try.f40 6) = secateurref02_Pack.T6 := by kernel_rfl
theorem secateurref02_Pack.bits6 : waitsOk secateurref02_Pack.T6.2 secateurref02_Pack.B6 = true := by kernel_rfl
set_option maxHeartbeats 8000000 in
set_option maxRecDepth 100000 in
theorem secateurref02_Pack.calls (k : Nat) (A0 : Option Addr) (c0 : Nat) (l0 : List Int) (r : List (S62)) (w : World) (hr0 : Kd.C (Kd.int .i64) w A0 l0.length l0) (hc0 : l0.length ≤ c0) (h : secateurref02_Pack.f k l0 = some r) :
    Calls Try.prog 40 #[.slice A0 l0.length c0] w fun e w' => ∃ v0_ : Value, e = .returned (v0_) ∧ Kd.R k62 62 w' w.heap.size (fun _ => True) v0_ r ∧ Below w.heap.size w w' := by
  have hu62 := Try.underlying62
  have HR0 := Aside0.mk hr0
  have HC0 := Aside0.mk hc0
  clear hr0 hc0
  have HB := Aside0.mk (Below.refl w.heap.size w)
  have H : (secateurref02_Pack.l0 k l0 (([] : List (S62))) 0 0) = some r := h
  clear h
  obtain ⟨y110, hy110⟩ : ∃ y_ : List (S62), y_ = (([] : List (S62))) := ⟨_, rfl⟩
  replace H : (secateurref02_Pack.l0 k l0 y110 0 0) = some r := by first | (rw [hy110]; with_reducible exact H) | (have H2_ := (Option.bind_some _ _).symm.trans H; rw [hy110]; with_reducible exact H2_) | (have H2_ := (Option.bind_some _ _).symm.trans H; with_reducible exact H2_) | with_reducible exact H | (rw [hy110]; exact H) | exact H
  have Ny110 := Aside0.mk hy110
  clear hy110
  have H' := Aside0.mk H
  clear H
  go_enter Try.func40, Try.ntmps40
  go_wp2_with (first | ((with_reducible refine gate_dst (N := 6) rfl ?_); refine Kd.R_lit k62 _ 62 ?hg (N := 6) ?hd (xs := ([] : List (S62))) (inner := []) (ok := fun _ => True) (okp := fun _ => True) ?hr ?hp (fun _ hk => hk) trivial (Below.refl _ _) (Nat.le_refl _) (by simp) ?_; (case hd => rfl); (case hg => rfl); (case hr => first | (go_simp; done) | (go_simp; rfl)); (case hp => exact (Reps.none _ _)); intro v111 w2 ho3 hb hg_ hnew_; clear hg_ hnew_; (first | rw [← Ny110.out] at ho3 | (simp only [Int.reduceToNat] at ho3; rw [← Ny110.out] at ho3)); have n0_ := Aside0.mk (Kd.R_lower ho3 (below_size (by repeat (first | (with_reducible first | exact HB.out | apply below_alloc | apply pw_below_drewN | apply below_drew1) | exact HB.out)))); have n1_ := Aside0.mk (below_step (by repeat (first | (with_reducible first | exact HB.out | apply below_alloc | apply pw_below_drewN | apply below_drew1) | exact HB.out)) hb); clear HB; have HO112 := n0_; have HB := n1_; clear n0_ n1_; clear hb ho3))
  go_loopg [3, 4, 5] k (fun kq v3 v4 v5 w' => ∃ (x3_1 : List (S62)) (x4_1 : Int) (x5_1 : Int), v4 = .int .i64 x4_1 ∧ v5 = .int .i64 x5_1 ∧ Aside0 (secateurref02_Pack.l0 kq l0 x3_1 x4_1 x5_1 = some r) ∧ Aside0 (kq ≤ k) ∧ Aside0 (Kd.R k62 62 w' w.heap.size (fun _ => True) v3 x3_1) ∧ Aside0 (Below w.heap.size w w'))
  case atStart => exact ⟨(y110), (0), (0), (by first | rfl | (simp; done) | (simp [*]; done)), (by first | rfl | (simp; done) | (simp [*]; done)), H', ⟨Nat.le_refl _⟩, ⟨by (with_reducible repeat (first | apply Kd.R_alloc | apply Kd.R_drewN | apply Kd.R_drew)); exact HO112.out⟩, ⟨by repeat (first | (with_reducible first | exact HB.out | apply below_alloc | apply pw_below_drewN | apply below_drew1) | exact HB.out)⟩⟩
  case round =>
    clear H'
    try clear p2
    obtain ⟨x3_1, x4_1, x5_1, rfl, rfl, HA, HK1, HO_3, HB⟩ := hrel
    cases gk with
    | zero => exact absurd HA.out (by simp [secateurref02_Pack.l0])
    | succ k1 =>
      have H := HA.out
      clear HA
      simp only [secateurref02_Pack.l0] at H
      by_cases c4 : x5_1 < (l0.length : Int)
      · rw [if_pos c4] at H
        have c4b0 : decide (x5_1 < (l0.length : Int)) = true := decide_eq_true c4
        clear c4
        by_cases c5 : (wrap64 (x5_1 + 1)) = (l0.length : Int)
        · rw [if_pos c5] at H
          have c5b0 : ((wrap64 (x5_1 + 1)) == (l0.length : Int)) = true := beq_iff_eq.mpr c5
          have c5b1 : ((wrap64 (x5_1 + 1)) != (l0.length : Int)) = false := bne_eq_false_iff_eq.mpr c5
          clear c5
          by_cases c6 : 0 ≤ x4_1
          · rw [if_pos c6] at H
            have c6b0 : decide (0 ≤ x4_1) = true := decide_eq_true c6
            clear c6
            by_cases c7 : x4_1 < (l0.length : Int)
            · rw [if_pos c7] at H
              have c7b0 : decide (x4_1 < (l0.length : Int)) = true := decide_eq_true c7
              clear c7
              by_cases c8 : 0 ≤ x5_1
              · rw [if_pos c8] at H
                have c8b0 : decide (0 ≤ x5_1) = true := decide_eq_true c8
                clear c8
                by_cases c9 : x3_1.length < 8796093022208
                · rw [if_pos c9] at H
                  have LMc9 := Aside0.mk c9
                  clear c9
                  obtain ⟨y115, hy115⟩ : ∃ y_ : List (S62), y_ = (x3_1 ++ [(⟨rd l0 x4_1, rd l0 x5_1⟩ : S62)]) := ⟨_, rfl⟩
                  replace H : (secateurref02_Pack.l0 k1 l0 y115 (wrap64 (x5_1 + 1)) (wrap64 (x5_1 + 1))) = some r := by first | (rw [hy115]; with_reducible exact H) | (have H2_ := (Option.bind_some _ _).symm.trans H; rw [hy115]; with_reducible exact H2_) | (have H2_ := (Option.bind_some _ _).symm.trans H; with_reducible exact H2_) | with_reducible exact H | (rw [hy115]; exact H) | exact H
                  have Ny115 := Aside0.mk hy115
                  clear hy115
                  have H' := Aside0.mk H
                  clear H
                  try go_wp2
                  have n0_ := Aside0.mk (Kd.R_drew HO_3.out)
                  have n1_ := Aside0.mk (below_drew1 HB.out)
                  clear HO_3
                  clear HB
                  have HO_3 := n0_
                  have HB := n1_
                  clear n0_ n1_
                  refine start_ (n := 18) (S := fun w' => True) (ds := []) x5q0 (by kernel_rfl) rfl rfl trivial (fun hHeld => ?_); refine with_tabW secateurref02_Pack.tab5 secateurref02_Pack.bits5 (fun HT_ HW_ => ?_)
                  generalize wr.drew = w10 at HO_3 HB hHeld ⊢
                  refine pure_ (i := 0) (N := some 13) (v := ?_) (a' := ?_) x5q1 rfl rfl (any_of HT_.out (by kernel_rfl)) (fun _ _ _ h => h) (Or.inl ⟨by rfl, ?_⟩) ?_ ?_
                  rotate_left; (· intro w'; go_simp; with_reducible rfl); rotate_left; (· simp only [Act.put, x5sa, x5sz, x5ss, i64_w, i32_w]; rfl)
                  refine pure_ (i := 1) (N := some 14) (v := ?_) (a' := ?_) x5q2 rfl rfl (any_of HT_.out (by kernel_rfl)) (fun _ _ _ h => h) (Or.inl ⟨by rfl, ?_⟩) ?_ ?_
                  rotate_left; (· intro w'; go_simp; with_reducible rfl); rotate_left; (· simp only [Act.put, x5sa, x5sz, x5ss, i64_w, i32_w]; rfl)
                  refine pure_ (i := 2) (N := some 15) (v := ?_) (a' := ?_) x5q3 rfl rfl (any_of HT_.out (by kernel_rfl)) (fun _ _ _ h => h) (Or.inl ⟨by rfl, ?_⟩) ?_ ?_
                  rotate_left; (· intro w'; go_simp; with_reducible rfl); rotate_left; (· simp only [Act.put, x5sa, x5sz, x5ss, i64_w, i32_w]; rfl)
                  refine pure_ (i := 3) (N := some 16) (v := ?_) (a' := ?_) x5q4 rfl rfl (any_of HT_.out (by kernel_rfl)) (fun _ _ _ h => h) (Or.inl ⟨by rfl, ?_⟩) ?_ ?_
                  rotate_left; (· intro w'; go_simp; with_reducible rfl); rotate_left; (· simp only [Act.put, x5sa, x5sz, x5ss, i64_w, i32_w]; rfl)
                  refine pure_ (i := 4) (N := some 17) (v := ?_) (a' := ?_) x5q5 rfl rfl (any_of HT_.out (by kernel_rfl)) (fun _ _ _ h => h) (Or.inl ⟨by rfl, ?_⟩) ?_ ?_
                  rotate_left; (· intro w'; go_simp; with_reducible rfl); rotate_left; (· simp only [Act.put, x5sa, x5sz, x5ss, i64_w, i32_w]; rfl)
                  refine pure_ (i := 5) (N := some 18) (v := ?_) (a' := ?_) x5q6 rfl rfl (any_of HT_.out (by kernel_rfl)) (fun _ _ _ h => h) (Or.inl ⟨by rfl, ?_⟩) ?_ ?_
                  rotate_left; (· intro w'; go_simp; with_reducible rfl); rotate_left; (· simp only [Act.put, x5sa, x5sz, x5ss, i64_w, i32_w]; rfl)
                  refine pure_ (i := 6) (N := some 19) (v := undef) (a' := ?_) x5q7 rfl rfl (any_of HT_.out (by kernel_rfl)) (fun _ _ _ h => h) (Or.inr ⟨by rfl, rfl⟩) ?_ ?_
                  rotate_left; (· simp only [Act.put, x5sa, x5sz, x5ss, i64_w, i32_w]; rfl)
                  refine pure_ (i := 7) (N := some 20) (v := undef) (a' := ?_) x5q8 rfl rfl (any_of HT_.out (by kernel_rfl)) (fun _ _ _ h => h) (Or.inr ⟨by rfl, rfl⟩) ?_ ?_
                  rotate_left; (· simp only [Act.put, x5sa, x5sz, x5ss, i64_w, i32_w]; rfl)
                  refine pure_ (i := 8) (N := some 21) (v := undef) (a' := ?_) x5q9 rfl rfl (any_of HT_.out (by kernel_rfl)) (fun _ _ _ h => h) (Or.inr ⟨by rfl, rfl⟩) ?_ ?_
                  rotate_left; (· simp only [Act.put, x5sa, x5sz, x5ss, i64_w, i32_w]; rfl)
                  refine pure_ (i := 9) (N := some 22) (v := undef) (a' := ?_) x5q10 rfl rfl (any_of HT_.out (by kernel_rfl)) (fun _ _ _ h => h) (Or.inr ⟨by rfl, rfl⟩) ?_ ?_
                  rotate_left; (· simp only [Act.put, x5sa, x5sz, x5ss, i64_w, i32_w]; rfl)
                  refine pure_ (i := 10) (N := some 23) (v := undef) (a' := ?_) x5q11 rfl rfl (any_of HT_.out (by kernel_rfl)) (fun _ _ _ h => h) (Or.inr ⟨by rfl, rfl⟩) ?_ ?_
                  rotate_left; (· simp only [Act.put, x5sa, x5sz, x5ss, i64_w, i32_w]; rfl)
                  refine pure_ (i := 11) (N := some 24) (v := undef) (a' := ?_) x5q12 rfl rfl (any_of HT_.out (by kernel_rfl)) (fun _ _ _ h => h) (Or.inr ⟨by rfl, rfl⟩) ?_ ?_
                  rotate_left; (· simp only [Act.put, x5sa, x5sz, x5ss, i64_w, i32_w]; rfl)
                  refine pure_ (i := 12) (N := some 25) (v := undef) (a' := ?_) x5q13 rfl rfl (any_of HT_.out (by kernel_rfl)) (fun _ _ _ h => h) (Or.inr ⟨by rfl, rfl⟩) ?_ ?_
                  rotate_left; (· simp only [Act.put, x5sa, x5sz, x5ss, i64_w, i32_w]; rfl)
                  refine pure_ (i := 13) (N := some 26) (v := undef) (a' := ?_) x5q14 rfl rfl (any_of HT_.out (by kernel_rfl)) (fun _ _ _ h => h) (Or.inr ⟨by rfl, rfl⟩) ?_ ?_
                  rotate_left; (· simp only [Act.put, x5sa, x5sz, x5ss, i64_w, i32_w]; rfl)
                  refine pure_ (i := 14) (N := some 27) (v := undef) (a' := ?_) x5q15 rfl rfl (any_of HT_.out (by kernel_rfl)) (fun _ _ _ h => h) (Or.inr ⟨by rfl, rfl⟩) ?_ ?_
                  rotate_left; (· simp only [Act.put, x5sa, x5sz, x5ss, i64_w, i32_w]; rfl)
                  refine pure_ (i := 15) (N := some 28) (v := undef) (a' := ?_) x5q16 rfl rfl (any_of HT_.out (by kernel_rfl)) (fun _ _ _ h => h) (Or.inr ⟨by rfl, rfl⟩) ?_ ?_
                  rotate_left; (· simp only [Act.put, x5sa, x5sz, x5ss, i64_w, i32_w]; rfl)
                  refine pure_ (i := 16) (N := some 29) (v := undef) (a' := ?_) x5q17 rfl rfl (any_of HT_.out (by kernel_rfl)) (fun _ _ _ h => h) (Or.inr ⟨by rfl, rfl⟩) ?_ ?_
                  rotate_left; (· simp only [Act.put, x5sa, x5sz, x5ss, i64_w, i32_w]; rfl)
                  refine pure_ (i := 17) (N := some 30) (v := ?_) (a' := ?_) x5q18 rfl rfl (any_of HT_.out (by kernel_rfl)) (fun _ _ _ h => h) (Or.inl ⟨by rfl, ?_⟩) ?_ ?_
                  rotate_left; (· intro w'; go_simp; with_reducible rfl); rotate_left; (· simp only [Act.put, x5sa, x5sz, x5ss, i64_w, i32_w]; rfl)
                  refine done_ (done_of HT_.out (by kernel_rfl)) ?_
                  try go_wp2
                  have n0_ := Aside0.mk (Kd.R_drew HO_3.out)
                  have n1_ := Aside0.mk (below_drew1 HB.out)
                  clear HO_3
                  clear HB
                  have HO_3 := n0_
                  have HB := n1_
                  clear n0_ n1_
                  have p113 : 0 ≤ (x4_1 : Int) := of_decide_eq_true (by first | (with_reducible assumption) | assumption)
                  have q113 : x4_1 < (l0.length : Int) := of_decide_eq_true (by first | (with_reducible assumption) | assumption)
                  obtain ⟨ad113, e113, hx113_0⟩ := Kd.at_int HR0.out x4_1 p113 q113
                  have hw113_0 := hx113_0
                  cases e113
                  replace hx113_0 := (HB.out.cell (World.block_lt_of_cell? w _ hx113_0)).trans hx113_0
                  replace p113 := eq_true p113
                  replace q113 := eq_true q113
                  have p114 : 0 ≤ (x5_1 : Int) := of_decide_eq_true (by first | (with_reducible assumption) | assumption)
                  have q114 : x5_1 < (l0.length : Int) := of_decide_eq_true (by first | (with_reducible assumption) | assumption)
                  obtain ⟨ad114, e114, hx114_0⟩ := Kd.at_int HR0.out x5_1 p114 q114
                  have hw114_0 := hx114_0
                  obtain rfl : ad113 = ad114 := (by injection e114)
                  replace hx114_0 := (HB.out.cell (World.block_lt_of_cell? w _ hx114_0)).trans hx114_0
                  replace p114 := eq_true p114
                  replace q114 := eq_true q114
                  refine start_ (n := 13) (S := fun w' => w'.cell? (ad113.add (x4_1).toNat) = some (.int .i64 (rd l0 x4_1)) ∧ w'.cell? (ad113.add (x5_1).toNat) = some (.int .i64 (rd l0 x5_1))) (ds := []) x5q19 (by kernel_rfl) rfl rfl ⟨((HB.out.cell (World.block_lt_of_cell? w _ hw113_0)).trans hw113_0), ((HB.out.cell (World.block_lt_of_cell? w _ hw114_0)).trans hw114_0)⟩ (fun hHeld => ?_); refine with_tabW secateurref02_Pack.tab6 secateurref02_Pack.bits6 (fun HT_ HW_ => ?_)
                  generalize w10.drew = w11 at HO_3 HB hx113_0 hx114_0 hHeld ⊢
                  refine pure_ (i := 0) (N := some 31) (v := ?_) (a' := ?_) x5q20 rfl rfl (any_of HT_.out (by kernel_rfl)) (fun _ _ _ h => h) (Or.inl ⟨by rfl, ?_⟩) ?_ ?_
                  rotate_left; (· intro w'; go_simp; with_reducible rfl); rotate_left; (· simp only [Act.put, x5sa, x5sz, x5ss, i64_w, i32_w]; rfl)
                  refine pure_ (i := 1) (N := some 32) (v := ?_) (a' := ?_) x5q21 rfl rfl (any_of HT_.out (by kernel_rfl)) (fun _ _ _ h => h) (Or.inl ⟨by rfl, ?_⟩) ?_ ?_
                  rotate_left; (· intro w'; go_simp; with_reducible rfl); rotate_left; (· simp only [Act.put, x5sa, x5sz, x5ss, i64_w, i32_w]; rfl)
                  refine pure_ (i := 2) (N := some 33) (v := ?_) (a' := ?_) x5q22 rfl rfl (any_of HT_.out (by kernel_rfl)) (fun _ _ _ h => h) (Or.inl ⟨by rfl, ?_⟩) ?_ ?_
                  rotate_left; (· intro w'; go_simp; with_reducible rfl); rotate_left; (· simp only [Act.put, x5sa, x5sz, x5ss, i64_w, i32_w]; rfl)
                  refine pure_ (i := 3) (N := some 34) (v := ?_) (a' := ?_) x5q23 rfl rfl (any_of HT_.out (by kernel_rfl)) (fun _ _ _ h => h) (Or.inl ⟨by rfl, ?_⟩) ?_ ?_
                  rotate_left; (· intro w'; go_simp; with_reducible rfl); rotate_left; (· simp only [Act.put, x5sa, x5sz, x5ss, i64_w, i32_w]; rfl)
                  refine pure_ (i := 5) (N := some 36) (v := ?_) (a' := ?_) x5q24 rfl rfl (any_of HT_.out (by kernel_rfl)) (fun _ _ _ h => h) (Or.inl ⟨by rfl, ?_⟩) ?_ ?_
                  rotate_left; (· intro w'; go_simp; with_reducible rfl); rotate_left; (· simp only [Act.put, x5sa, x5sz, x5ss, i64_w, i32_w]; rfl)
                  refine pure_ (i := 6) (N := some 37) (v := ?_) (a' := ?_) x5q25 rfl rfl (any_of HT_.out (by kernel_rfl)) (fun _ _ _ h => h) (Or.inl ⟨by rfl, ?_⟩) ?_ ?_
                  rotate_left; (· intro w'; go_simp; with_reducible rfl); rotate_left; (· simp only [Act.put, x5sa, x5sz, x5ss, i64_w, i32_w]; rfl)
                  refine pure_ (i := 7) (N := some 38) (v := ?_) (a' := ?_) x5q26 rfl rfl (any_of HT_.out (by kernel_rfl)) (fun _ _ _ h => h) (Or.inl ⟨by rfl, ?_⟩) ?_ ?_
                  rotate_left; (· intro w'; go_simp; with_reducible rfl); rotate_left; (· simp only [Act.put, x5sa, x5sz, x5ss, i64_w, i32_w]; rfl)
                  refine take_ (i := 4) (N := some 35) (v := ?_) (a' := ?_) x5q27 rfl rfl (take_ofW HT_.out HW_.out (by kernel_rfl)) (fun _ _ _ h => h) (Or.inl ⟨by rfl, ?_⟩) hHeld ?_ ?_
                  rotate_left; (· rintro w' ⟨s0, s1⟩; go_simp; with_reducible rfl); rotate_left; (· simp only [Act.put, x5sa, x5sz, x5ss, i64_w, i32_w]; rfl)
                  refine take_ (i := 8) (N := some 39) (v := ?_) (a' := ?_) x5q28 rfl rfl (take_ofW HT_.out HW_.out (by kernel_rfl)) (fun _ _ _ h => h) (Or.inl ⟨by rfl, ?_⟩) hHeld ?_ ?_
                  rotate_left; (· rintro w' ⟨s0, s1⟩; go_simp; with_reducible rfl); rotate_left; (· simp only [Act.put, x5sa, x5sz, x5ss, i64_w, i32_w]; rfl)
                  refine pure_ (i := 9) (N := some 40) (v := ?_) (a' := ?_) x5q29 rfl rfl (any_of HT_.out (by kernel_rfl)) (fun _ _ _ h => h) (Or.inl ⟨by rfl, ?_⟩) ?_ ?_
                  rotate_left; (· intro w'; go_simp; with_reducible rfl); rotate_left; (· simp only [Act.put, x5sa, x5sz, x5ss, i64_w, i32_w]; rfl)
                  refine one_ (i := 10) (N := some 41) x5q30 rfl rfl (one_of HT_.out (by kernel_rfl)) (by decide) (fun K hK => ?_)
                  refine value_ (w1 := ?_) (v := ?_) (by rfl) rfl ?_ ?_
                  rotate_left 2
                  · go_simp
                    constructor
                    · rfl
                    · rfl
                  refine hK.out _ _ ⟨(World.cell?_alloc_lt _ _ _ (World.block_lt_of_cell? _ _ (((HB.out.cell (World.block_lt_of_cell? w _ hw113_0)).trans hw113_0)))).trans (((HB.out.cell (World.block_lt_of_cell? w _ hw113_0)).trans hw113_0)), (World.cell?_alloc_lt _ _ _ (World.block_lt_of_cell? _ _ (((HB.out.cell (World.block_lt_of_cell? w _ hw114_0)).trans hw114_0)))).trans (((HB.out.cell (World.block_lt_of_cell? w _ hw114_0)).trans hw114_0))⟩ (fun hHeld => ?_)
                  clear hK K
                  refine norm_ (a' := ?_) ?_ ?_
                  rotate_left
                  · show Act.put _ (some 41) _ = _
                    simp only [Act.put, x5sa, x5sz, x5ss, i64_w, i32_w]
                    rfl
                  refine one_ (i := 11) (N := some 42) x5q31 rfl rfl (one_of HT_.out (by kernel_rfl)) (by decide) (fun K hK => ?_)
                  refine Kd.R_append_step k62 (w0 := w) w.heap.size (by rfl) (.tmp 31) (.tmp 41) 31 62 (.agg #[(.int .i64 0), (.int .i64 0)]) 16 rfl Try.underlying31 info62 rfl (by decide) (by omega) u3 x3_1 (⟨rd l0 x4_1, rd l0 x5_1⟩ : S62) [.int .i64 (rd l0 x4_1), .int .i64 (rd l0 x5_1)] (fun _ => True) (fun _ => False) rfl rfl ?aP (fun _ hk => hk.elim) ?aF ?aO ?aB ?aS ?aL ?_
                  (case aP => exact k62_mkM _ _ _ (⟨rd l0 x4_1, rd l0 x5_1⟩ : S62))
                  (case aB => exact (by repeat (first | (with_reducible first | exact HB.out | apply below_alloc | apply pw_below_drewN | apply below_drew1) | exact HB.out)))
                  (case aF => exact (fun _ _ => trivial))
                  (case aO => exact (by (with_reducible repeat (first | apply Kd.R_alloc | apply Kd.R_drewN | apply Kd.R_drew)); exact HO_3.out))
                  (case aS => exact (below_size (by repeat (first | (with_reducible first | exact HB.out | apply below_alloc | apply pw_below_drewN | apply below_drew1) | exact HB.out))))
                  (case aL => have := LMc9.out; omega)
                  intro v116 w12 ho hb hg hat
                  rw [← Ny115.out] at ho
                  have n0_ := Aside0.mk (hb)
                  have n1_ := Aside0.mk (ho)
                  clear HB
                  clear HO_3
                  have HB := n0_
                  have HO117 := n1_
                  clear n0_ n1_
                  clear ho hb hg hat
                  refine hK.out _ _ ⟨((HB.out.cell (World.block_lt_of_cell? w _ hw113_0)).trans hw113_0), ((HB.out.cell (World.block_lt_of_cell? w _ hw114_0)).trans hw114_0)⟩ (fun hHeld => ?_)
                  clear hK K
                  refine norm_ (a' := ?_) ?_ ?_
                  rotate_left
                  · show Act.put _ (some 42) _ = _
                    simp only [Act.put, x5sa, x5sz, x5ss, i64_w, i32_w]
                    rfl
                  refine pure_ (i := 12) (N := some 3) (v := ?_) (a' := ?_) x5q32 rfl rfl (any_of HT_.out (by kernel_rfl)) (fun _ _ _ h => h) (Or.inl ⟨by rfl, ?_⟩) ?_ ?_
                  rotate_left; (· intro w'; go_simp; with_reducible rfl); rotate_left; (· simp only [Act.put, x5sa, x5sz, x5ss, i64_w, i32_w]; rfl)
                  refine done_ (done_of HT_.out (by kernel_rfl)) ?_
                  try go_wp2
                  go_roundg k1
                  case measure => have := HK1.out; omega
                  case rel => exact ⟨(y115), (wrap64 (x5_1 + 1)), (wrap64 (x5_1 + 1)), (by first | rfl | (simp; done) | (simp [*]; done)), (by first | rfl | (simp; done) | (simp [*]; done)), H', ⟨by have := HK1.out; omega⟩, ⟨by (with_reducible repeat (first | apply Kd.R_alloc | apply Kd.R_drewN | apply Kd.R_drew)); exact HO117.out⟩, ⟨by repeat (first | (with_reducible first | exact HB.out | apply below_alloc | apply pw_below_drewN | apply below_drew1) | exact HB.out)⟩⟩
                · rw [if_neg c9] at H
                  exact absurd H (by simp)
              · rw [if_neg c8] at H
                exact absurd H (by simp)
            · rw [if_neg c7] at H
              exact absurd H (by simp)
          · rw [if_neg c6] at H
            exact absurd H (by simp)
        · rw [if_neg c5] at H
          have c5b0 : ((wrap64 (x5_1 + 1)) == (l0.length : Int)) = false := beq_eq_false_iff_ne.mpr c5
          have c5b1 : ((wrap64 (x5_1 + 1)) != (l0.length : Int)) = true := bne_iff_ne.mpr c5
          obtain ⟨ji13, hji13⟩ : ∃ j_ : Int, (wrap64 (x5_1 + 1)) = j_ := ⟨_, rfl⟩
          replace H : (if 0 ≤ (ji13) then (if (ji13) < (l0.length : Int) then (if 0 ≤ x5_1 then (if (rd l0 (ji13)) = (wrap64 ((rd l0 x5_1) + 1)) then (secateurref02_Pack.l0 k1 l0 x3_1 x4_1 ji13) else (if 0 ≤ x4_1 then (if x4_1 < (l0.length : Int) then (if x3_1.length < 8796093022208 then (secateurref02_Pack.l0 k1 l0 (x3_1 ++ [(⟨rd l0 x4_1, rd l0 x5_1⟩ : S62)]) ji13 ji13) else (none)) else (none)) else (none))) else (none)) else (none)) else (none)) = some r := by first | (rw [hji13] at H; exact H) | (simp only [hji13] at H ⊢; exact H)
          (try rw [hji13] at c5b0)
          (try rw [hji13] at c5b1)
          have hji13w : (IntKind.i64.wrap (x5_1 + 1)) = ji13 := (i64_w _).trans hji13
          by_cases c14 : 0 ≤ (ji13)
          · rw [if_pos c14] at H
            have c14b0 : decide (0 ≤ (ji13)) = true := decide_eq_true c14
            clear c14
            by_cases c15 : (ji13) < (l0.length : Int)
            · rw [if_pos c15] at H
              have c15b0 : decide ((ji13) < (l0.length : Int)) = true := decide_eq_true c15
              clear c15
              by_cases c16 : 0 ≤ x5_1
              · rw [if_pos c16] at H
                have c16b0 : decide (0 ≤ x5_1) = true := decide_eq_true c16
                clear c16
                by_cases c17 : (rd l0 (ji13)) = (wrap64 ((rd l0 x5_1) + 1))
                · rw [if_pos c17] at H
                  have c17b0 : ((rd l0 (ji13)) == (wrap64 ((rd l0 x5_1) + 1))) = true := beq_iff_eq.mpr c17
                  have c17b1 : ((rd l0 (ji13)) != (wrap64 ((rd l0 x5_1) + 1))) = false := bne_eq_false_iff_eq.mpr c17
                  clear c17
                  have H' := Aside0.mk H
                  clear H
                  try go_wp2
                  have n0_ := Aside0.mk (Kd.R_drew HO_3.out)
                  have n1_ := Aside0.mk (below_drew1 HB.out)
                  clear HO_3
                  clear HB
                  have HO_3 := n0_
                  have HB := n1_
                  clear n0_ n1_
                  have p118 : 0 ≤ ((ji13) : Int) := of_decide_eq_true (by first | (with_reducible assumption) | assumption)
                  have q118 : (ji13) < (l0.length : Int) := of_decide_eq_true (by first | (with_reducible assumption) | assumption)
                  obtain ⟨ad118, e118, hx118_0⟩ := Kd.at_int HR0.out (ji13) p118 q118
                  have hw118_0 := hx118_0
                  cases e118
                  replace hx118_0 := (HB.out.cell (World.block_lt_of_cell? w _ hx118_0)).trans hx118_0
                  replace p118 := eq_true p118
                  replace q118 := eq_true q118
                  have p119 : 0 ≤ (x5_1 : Int) := of_decide_eq_true (by first | (with_reducible assumption) | assumption)
                  have q119 : x5_1 < (l0.length : Int) := of_decide_eq_true (by first | (with_reducible assumption) | assumption)
                  obtain ⟨ad119, e119, hx119_0⟩ := Kd.at_int HR0.out x5_1 p119 q119
                  have hw119_0 := hx119_0
                  obtain rfl : ad118 = ad119 := (by injection e119)
                  replace hx119_0 := (HB.out.cell (World.block_lt_of_cell? w _ hx119_0)).trans hx119_0
                  replace p119 := eq_true p119
                  replace q119 := eq_true q119
                  refine start_ (n := 18) (S := fun w' => w'.cell? (ad118.add ((ji13)).toNat) = some (.int .i64 (rd l0 (ji13))) ∧ w'.cell? (ad118.add (x5_1).toNat) = some (.int .i64 (rd l0 x5_1))) (ds := []) x5q0 (by kernel_rfl) rfl rfl ⟨((HB.out.cell (World.block_lt_of_cell? w _ hw118_0)).trans hw118_0), ((HB.out.cell (World.block_lt_of_cell? w _ hw119_0)).trans hw119_0)⟩ (fun hHeld => ?_); refine with_tabW secateurref02_Pack.tab5 secateurref02_Pack.bits5 (fun HT_ HW_ => ?_)
                  generalize wr.drew = w18 at HO_3 HB hx118_0 hx119_0 hHeld ⊢
                  refine pure_ (i := 0) (N := some 13) (v := ?_) (a' := ?_) x5q1 rfl rfl (any_of HT_.out (by kernel_rfl)) (fun _ _ _ h => h) (Or.inl ⟨by rfl, ?_⟩) ?_ ?_
                  rotate_left; (· intro w'; go_simp; with_reducible rfl); rotate_left; (· simp only [Act.put, x5sa, x5sz, x5ss, i64_w, i32_w]; rfl)
                  refine pure_ (i := 1) (N := some 14) (v := ?_) (a' := ?_) x5q2 rfl rfl (any_of HT_.out (by kernel_rfl)) (fun _ _ _ h => h) (Or.inl ⟨by rfl, ?_⟩) ?_ ?_
                  rotate_left; (· intro w'; go_simp; with_reducible rfl); rotate_left; (· simp only [Act.put, x5sa, x5sz, x5ss, i64_w, i32_w]; rfl)
                  refine pure_ (i := 2) (N := some 15) (v := ?_) (a' := ?_) x5q3 rfl rfl (any_of HT_.out (by kernel_rfl)) (fun _ _ _ h => h) (Or.inl ⟨by rfl, ?_⟩) ?_ ?_
                  rotate_left; (· intro w'; go_simp; with_reducible rfl); rotate_left; (· simp only [Act.put, x5sa, x5sz, x5ss, i64_w, i32_w]; rfl)
                  refine pure_ (i := 3) (N := some 16) (v := ?_) (a' := ?_) x5q4 rfl rfl (any_of HT_.out (by kernel_rfl)) (fun _ _ _ h => h) (Or.inl ⟨by rfl, ?_⟩) ?_ ?_
                  rotate_left; (· intro w'; go_simp; with_reducible rfl); rotate_left; (· simp only [Act.put, x5sa, x5sz, x5ss, i64_w, i32_w]; rfl)
                  refine pure_ (i := 4) (N := some 17) (v := ?_) (a' := ?_) x5q5 rfl rfl (any_of HT_.out (by kernel_rfl)) (fun _ _ _ h => h) (Or.inl ⟨by rfl, ?_⟩) ?_ ?_
                  rotate_left; (· intro w'; go_simp; with_reducible rfl); rotate_left; (· simp only [Act.put, x5sa, x5sz, x5ss, i64_w, i32_w]; rfl)
                  refine pure_ (i := 5) (N := some 18) (v := ?_) (a' := ?_) x5q6 rfl rfl (any_of HT_.out (by kernel_rfl)) (fun _ _ _ h => h) (Or.inl ⟨by rfl, ?_⟩) ?_ ?_
                  rotate_left; (· intro w'; go_simp; with_reducible rfl); rotate_left; (· simp only [Act.put, x5sa, x5sz, x5ss, i64_w, i32_w]; rfl)
                  refine pure_ (i := 6) (N := some 19) (v := ?_) (a' := ?_) x5q7 rfl rfl (any_of HT_.out (by kernel_rfl)) (fun _ _ _ h => h) (Or.inl ⟨by rfl, ?_⟩) ?_ ?_
                  rotate_left; (· intro w'; go_simp; with_reducible rfl); rotate_left; (· simp only [Act.put, x5sa, x5sz, x5ss, i64_w, i32_w]; rfl)
                  refine pure_ (i := 7) (N := some 20) (v := ?_) (a' := ?_) x5q8 rfl rfl (any_of HT_.out (by kernel_rfl)) (fun _ _ _ h => h) (Or.inl ⟨by rfl, ?_⟩) ?_ ?_
                  rotate_left; (· intro w'; go_simp; with_reducible rfl); rotate_left; (· simp only [Act.put, x5sa, x5sz, x5ss, i64_w, i32_w]; rfl)
                  refine pure_ (i := 8) (N := some 21) (v := ?_) (a' := ?_) x5q9 rfl rfl (any_of HT_.out (by kernel_rfl)) (fun _ _ _ h => h) (Or.inl ⟨by rfl, ?_⟩) ?_ ?_
                  rotate_left; (· intro w'; go_simp; with_reducible rfl); rotate_left; (· simp only [Act.put, x5sa, x5sz, x5ss, i64_w, i32_w]; rfl)
                  refine pure_ (i := 9) (N := some 22) (v := ?_) (a' := ?_) x5q10 rfl rfl (any_of HT_.out (by kernel_rfl)) (fun _ _ _ h => h) (Or.inl ⟨by rfl, ?_⟩) ?_ ?_
                  rotate_left; (· intro w'; go_simp; with_reducible rfl); rotate_left; (· simp only [Act.put, x5sa, x5sz, x5ss, i64_w, i32_w]; rfl)
                  refine pure_ (i := 11) (N := some 24) (v := ?_) (a' := ?_) x5q33 rfl rfl (any_of HT_.out (by kernel_rfl)) (fun _ _ _ h => h) (Or.inl ⟨by rfl, ?_⟩) ?_ ?_
                  rotate_left; (· intro w'; go_simp; with_reducible rfl); rotate_left; (· simp only [Act.put, x5sa, x5sz, x5ss, i64_w, i32_w]; rfl)
                  refine pure_ (i := 12) (N := some 25) (v := ?_) (a' := ?_) x5q34 rfl rfl (any_of HT_.out (by kernel_rfl)) (fun _ _ _ h => h) (Or.inl ⟨by rfl, ?_⟩) ?_ ?_
                  rotate_left; (· intro w'; go_simp; with_reducible rfl); rotate_left; (· simp only [Act.put, x5sa, x5sz, x5ss, i64_w, i32_w]; rfl)
                  refine pure_ (i := 13) (N := some 26) (v := ?_) (a' := ?_) x5q35 rfl rfl (any_of HT_.out (by kernel_rfl)) (fun _ _ _ h => h) (Or.inl ⟨by rfl, ?_⟩) ?_ ?_
                  rotate_left; (· intro w'; go_simp; with_reducible rfl); rotate_left; (· simp only [Act.put, x5sa, x5sz, x5ss, i64_w, i32_w]; rfl)
                  refine take_ (i := 10) (N := some 23) (v := ?_) (a' := ?_) x5q14 rfl rfl (take_ofW HT_.out HW_.out (by kernel_rfl)) (fun _ _ _ h => h) (Or.inl ⟨by rfl, ?_⟩) hHeld ?_ ?_
                  rotate_left; (· rintro w' ⟨s0, s1⟩; go_simp; with_reducible rfl); rotate_left; (· simp only [Act.put, x5sa, x5sz, x5ss, i64_w, i32_w]; rfl)
                  refine take_ (i := 14) (N := some 27) (v := ?_) (a' := ?_) x5q15 rfl rfl (take_ofW HT_.out HW_.out (by kernel_rfl)) (fun _ _ _ h => h) (Or.inl ⟨by rfl, ?_⟩) hHeld ?_ ?_
                  rotate_left; (· rintro w' ⟨s0, s1⟩; go_simp; with_reducible rfl); rotate_left; (· simp only [Act.put, x5sa, x5sz, x5ss, i64_w, i32_w]; rfl)
                  refine pure_ (i := 15) (N := some 28) (v := ?_) (a' := ?_) x5q16 rfl rfl (any_of HT_.out (by kernel_rfl)) (fun _ _ _ h => h) (Or.inl ⟨by rfl, ?_⟩) ?_ ?_
                  rotate_left; (· intro w'; go_simp; with_reducible rfl); rotate_left; (· simp only [Act.put, x5sa, x5sz, x5ss, i64_w, i32_w]; rfl)
                  refine pure_ (i := 16) (N := some 29) (v := ?_) (a' := ?_) x5q17 rfl rfl (any_of HT_.out (by kernel_rfl)) (fun _ _ _ h => h) (Or.inl ⟨by rfl, ?_⟩) ?_ ?_
                  rotate_left; (· intro w'; go_simp; with_reducible rfl); rotate_left; (· simp only [Act.put, x5sa, x5sz, x5ss, i64_w, i32_w]; rfl)
                  refine pure_ (i := 17) (N := some 30) (v := ?_) (a' := ?_) x5q18 rfl rfl (any_of HT_.out (by kernel_rfl)) (fun _ _ _ h => h) (Or.inl ⟨by rfl, ?_⟩) ?_ ?_
                  rotate_left; (· intro w'; go_simp; with_reducible rfl); rotate_left; (· simp only [Act.put, x5sa, x5sz, x5ss, i64_w, i32_w]; rfl)
                  refine done_ (done_of HT_.out (by kernel_rfl)) ?_
                  try go_wp2
                  go_roundg k1
                  case measure => have := HK1.out; omega
                  case rel => exact ⟨(x3_1), (x4_1), (ji13), (by first | rfl | (simp; done) | (simp [*]; done)), (by first | rfl | (simp; done) | (simp only [← hji13] <;> (first | rfl | simp)) | (simp [*]; done)), H', ⟨by have := HK1.out; omega⟩, ⟨by (with_reducible repeat (first | apply Kd.R_alloc | apply Kd.R_drewN | apply Kd.R_drew)); exact HO_3.out⟩, ⟨by repeat (first | (with_reducible first | exact HB.out | apply below_alloc | apply pw_below_drewN | apply below_drew1) | exact HB.out)⟩⟩
                · rw [if_neg c17] at H
                  have c17b0 : ((rd l0 (ji13)) == (wrap64 ((rd l0 x5_1) + 1))) = false := beq_eq_false_iff_ne.mpr c17
                  have c17b1 : ((rd l0 (ji13)) != (wrap64 ((rd l0 x5_1) + 1))) = true := bne_iff_ne.mpr c17
                  by_cases c19 : 0 ≤ x4_1
                  · rw [if_pos c19] at H
                    have c19b0 : decide (0 ≤ x4_1) = true := decide_eq_true c19
                    clear c19
                    by_cases c20 : x4_1 < (l0.length : Int)
                    · rw [if_pos c20] at H
                      have c20b0 : decide (x4_1 < (l0.length : Int)) = true := decide_eq_true c20
                      clear c20
                      by_cases c21 : x3_1.length < 8796093022208
                      · rw [if_pos c21] at H
                        have LMc21 := Aside0.mk c21
                        clear c21
                        obtain ⟨y122, hy122⟩ : ∃ y_ : List (S62), y_ = (x3_1 ++ [(⟨rd l0 x4_1, rd l0 x5_1⟩ : S62)]) := ⟨_, rfl⟩
                        replace H : (secateurref02_Pack.l0 k1 l0 y122 ji13 ji13) = some r := by first | (rw [hy122]; with_reducible exact H) | (have H2_ := (Option.bind_some _ _).symm.trans H; rw [hy122]; with_reducible exact H2_) | (have H2_ := (Option.bind_some _ _).symm.trans H; with_reducible exact H2_) | with_reducible exact H | (rw [hy122]; exact H) | exact H
                        have Ny122 := Aside0.mk hy122
                        clear hy122
                        have H' := Aside0.mk H
                        clear H
                        try go_wp2
                        have n0_ := Aside0.mk (Kd.R_drew HO_3.out)
                        have n1_ := Aside0.mk (below_drew1 HB.out)
                        clear HO_3
                        clear HB
                        have HO_3 := n0_
                        have HB := n1_
                        clear n0_ n1_
                        have p118 : 0 ≤ ((ji13) : Int) := of_decide_eq_true (by first | (with_reducible assumption) | assumption)
                        have q118 : (ji13) < (l0.length : Int) := of_decide_eq_true (by first | (with_reducible assumption) | assumption)
                        obtain ⟨ad118, e118, hx118_0⟩ := Kd.at_int HR0.out (ji13) p118 q118
                        have hw118_0 := hx118_0
                        cases e118
                        replace hx118_0 := (HB.out.cell (World.block_lt_of_cell? w _ hx118_0)).trans hx118_0
                        replace p118 := eq_true p118
                        replace q118 := eq_true q118
                        have p119 : 0 ≤ (x5_1 : Int) := of_decide_eq_true (by first | (with_reducible assumption) | assumption)
                        have q119 : x5_1 < (l0.length : Int) := of_decide_eq_true (by first | (with_reducible assumption) | assumption)
                        obtain ⟨ad119, e119, hx119_0⟩ := Kd.at_int HR0.out x5_1 p119 q119
                        have hw119_0 := hx119_0
                        obtain rfl : ad118 = ad119 := (by injection e119)
                        replace hx119_0 := (HB.out.cell (World.block_lt_of_cell? w _ hx119_0)).trans hx119_0
                        replace p119 := eq_true p119
                        replace q119 := eq_true q119
                        refine start_ (n := 18) (S := fun w' => w'.cell? (ad118.add ((ji13)).toNat) = some (.int .i64 (rd l0 (ji13))) ∧ w'.cell? (ad118.add (x5_1).toNat) = some (.int .i64 (rd l0 x5_1))) (ds := []) x5q0 (by kernel_rfl) rfl rfl ⟨((HB.out.cell (World.block_lt_of_cell? w _ hw118_0)).trans hw118_0), ((HB.out.cell (World.block_lt_of_cell? w _ hw119_0)).trans hw119_0)⟩ (fun hHeld => ?_); refine with_tabW secateurref02_Pack.tab5 secateurref02_Pack.bits5 (fun HT_ HW_ => ?_)
                        generalize wr.drew = w22 at HO_3 HB hx118_0 hx119_0 hHeld ⊢
                        refine pure_ (i := 0) (N := some 13) (v := ?_) (a' := ?_) x5q1 rfl rfl (any_of HT_.out (by kernel_rfl)) (fun _ _ _ h => h) (Or.inl ⟨by rfl, ?_⟩) ?_ ?_
                        rotate_left; (· intro w'; go_simp; with_reducible rfl); rotate_left; (· simp only [Act.put, x5sa, x5sz, x5ss, i64_w, i32_w]; rfl)
                        refine pure_ (i := 1) (N := some 14) (v := ?_) (a' := ?_) x5q2 rfl rfl (any_of HT_.out (by kernel_rfl)) (fun _ _ _ h => h) (Or.inl ⟨by rfl, ?_⟩) ?_ ?_
                        rotate_left; (· intro w'; go_simp; with_reducible rfl); rotate_left; (· simp only [Act.put, x5sa, x5sz, x5ss, i64_w, i32_w]; rfl)
                        refine pure_ (i := 2) (N := some 15) (v := ?_) (a' := ?_) x5q3 rfl rfl (any_of HT_.out (by kernel_rfl)) (fun _ _ _ h => h) (Or.inl ⟨by rfl, ?_⟩) ?_ ?_
                        rotate_left; (· intro w'; go_simp; with_reducible rfl); rotate_left; (· simp only [Act.put, x5sa, x5sz, x5ss, i64_w, i32_w]; rfl)
                        refine pure_ (i := 3) (N := some 16) (v := ?_) (a' := ?_) x5q4 rfl rfl (any_of HT_.out (by kernel_rfl)) (fun _ _ _ h => h) (Or.inl ⟨by rfl, ?_⟩) ?_ ?_
                        rotate_left; (· intro w'; go_simp; with_reducible rfl); rotate_left; (· simp only [Act.put, x5sa, x5sz, x5ss, i64_w, i32_w]; rfl)
                        refine pure_ (i := 4) (N := some 17) (v := ?_) (a' := ?_) x5q5 rfl rfl (any_of HT_.out (by kernel_rfl)) (fun _ _ _ h => h) (Or.inl ⟨by rfl, ?_⟩) ?_ ?_
                        rotate_left; (· intro w'; go_simp; with_reducible rfl); rotate_left; (· simp only [Act.put, x5sa, x5sz, x5ss, i64_w, i32_w]; rfl)
                        refine pure_ (i := 5) (N := some 18) (v := ?_) (a' := ?_) x5q6 rfl rfl (any_of HT_.out (by kernel_rfl)) (fun _ _ _ h => h) (Or.inl ⟨by rfl, ?_⟩) ?_ ?_
                        rotate_left; (· intro w'; go_simp; with_reducible rfl); rotate_left; (· simp only [Act.put, x5sa, x5sz, x5ss, i64_w, i32_w]; rfl)
                        refine pure_ (i := 6) (N := some 19) (v := ?_) (a' := ?_) x5q7 rfl rfl (any_of HT_.out (by kernel_rfl)) (fun _ _ _ h => h) (Or.inl ⟨by rfl, ?_⟩) ?_ ?_
                        rotate_left; (· intro w'; go_simp; with_reducible rfl); rotate_left; (· simp only [Act.put, x5sa, x5sz, x5ss, i64_w, i32_w]; rfl)
                        refine pure_ (i := 7) (N := some 20) (v := ?_) (a' := ?_) x5q8 rfl rfl (any_of HT_.out (by kernel_rfl)) (fun _ _ _ h => h) (Or.inl ⟨by rfl, ?_⟩) ?_ ?_
                        rotate_left; (· intro w'; go_simp; with_reducible rfl); rotate_left; (· simp only [Act.put, x5sa, x5sz, x5ss, i64_w, i32_w]; rfl)
                        refine pure_ (i := 8) (N := some 21) (v := ?_) (a' := ?_) x5q9 rfl rfl (any_of HT_.out (by kernel_rfl)) (fun _ _ _ h => h) (Or.inl ⟨by rfl, ?_⟩) ?_ ?_
                        rotate_left; (· intro w'; go_simp; with_reducible rfl); rotate_left; (· simp only [Act.put, x5sa, x5sz, x5ss, i64_w, i32_w]; rfl)
                        refine pure_ (i := 9) (N := some 22) (v := ?_) (a' := ?_) x5q10 rfl rfl (any_of HT_.out (by kernel_rfl)) (fun _ _ _ h => h) (Or.inl ⟨by rfl, ?_⟩) ?_ ?_
                        rotate_left; (· intro w'; go_simp; with_reducible rfl); rotate_left; (· simp only [Act.put, x5sa, x5sz, x5ss, i64_w, i32_w]; rfl)
                        refine pure_ (i := 11) (N := some 24) (v := ?_) (a' := ?_) x5q33 rfl rfl (any_of HT_.out (by kernel_rfl)) (fun _ _ _ h => h) (Or.inl ⟨by rfl, ?_⟩) ?_ ?_
                        rotate_left; (· intro w'; go_simp; with_reducible rfl); rotate_left; (· simp only [Act.put, x5sa, x5sz, x5ss, i64_w, i32_w]; rfl)
                        refine pure_ (i := 12) (N := some 25) (v := ?_) (a' := ?_) x5q34 rfl rfl (any_of HT_.out (by kernel_rfl)) (fun _ _ _ h => h) (Or.inl ⟨by rfl, ?_⟩) ?_ ?_
                        rotate_left; (· intro w'; go_simp; with_reducible rfl); rotate_left; (· simp only [Act.put, x5sa, x5sz, x5ss, i64_w, i32_w]; rfl)
                        refine pure_ (i := 13) (N := some 26) (v := ?_) (a' := ?_) x5q35 rfl rfl (any_of HT_.out (by kernel_rfl)) (fun _ _ _ h => h) (Or.inl ⟨by rfl, ?_⟩) ?_ ?_
                        rotate_left; (· intro w'; go_simp; with_reducible rfl); rotate_left; (· simp only [Act.put, x5sa, x5sz, x5ss, i64_w, i32_w]; rfl)
                        refine take_ (i := 10) (N := some 23) (v := ?_) (a' := ?_) x5q14 rfl rfl (take_ofW HT_.out HW_.out (by kernel_rfl)) (fun _ _ _ h => h) (Or.inl ⟨by rfl, ?_⟩) hHeld ?_ ?_
                        rotate_left; (· rintro w' ⟨s0, s1⟩; go_simp; with_reducible rfl); rotate_left; (· simp only [Act.put, x5sa, x5sz, x5ss, i64_w, i32_w]; rfl)
                        refine take_ (i := 14) (N := some 27) (v := ?_) (a' := ?_) x5q15 rfl rfl (take_ofW HT_.out HW_.out (by kernel_rfl)) (fun _ _ _ h => h) (Or.inl ⟨by rfl, ?_⟩) hHeld ?_ ?_
                        rotate_left; (· rintro w' ⟨s0, s1⟩; go_simp; with_reducible rfl); rotate_left; (· simp only [Act.put, x5sa, x5sz, x5ss, i64_w, i32_w]; rfl)
                        refine pure_ (i := 15) (N := some 28) (v := ?_) (a' := ?_) x5q16 rfl rfl (any_of HT_.out (by kernel_rfl)) (fun _ _ _ h => h) (Or.inl ⟨by rfl, ?_⟩) ?_ ?_
                        rotate_left; (· intro w'; go_simp; with_reducible rfl); rotate_left; (· simp only [Act.put, x5sa, x5sz, x5ss, i64_w, i32_w]; rfl)
                        refine pure_ (i := 16) (N := some 29) (v := ?_) (a' := ?_) x5q17 rfl rfl (any_of HT_.out (by kernel_rfl)) (fun _ _ _ h => h) (Or.inl ⟨by rfl, ?_⟩) ?_ ?_
                        rotate_left; (· intro w'; go_simp; with_reducible rfl); rotate_left; (· simp only [Act.put, x5sa, x5sz, x5ss, i64_w, i32_w]; rfl)
                        refine pure_ (i := 17) (N := some 30) (v := ?_) (a' := ?_) x5q18 rfl rfl (any_of HT_.out (by kernel_rfl)) (fun _ _ _ h => h) (Or.inl ⟨by rfl, ?_⟩) ?_ ?_
                        rotate_left; (· intro w'; go_simp; with_reducible rfl); rotate_left; (· simp only [Act.put, x5sa, x5sz, x5ss, i64_w, i32_w]; rfl)
                        refine done_ (done_of HT_.out (by kernel_rfl)) ?_
                        try go_wp2
                        have n0_ := Aside0.mk (Kd.R_drew HO_3.out)
                        have n1_ := Aside0.mk (below_drew1 HB.out)
                        clear HO_3
                        clear HB
                        have HO_3 := n0_
                        have HB := n1_
                        clear n0_ n1_
                        have p120 : 0 ≤ (x4_1 : Int) := of_decide_eq_true (by first | (with_reducible assumption) | assumption)
                        have q120 : x4_1 < (l0.length : Int) := of_decide_eq_true (by first | (with_reducible assumption) | assumption)
                        obtain ⟨ad120, e120, hx120_0⟩ := Kd.at_int HR0.out x4_1 p120 q120
                        have hw120_0 := hx120_0
                        obtain rfl : ad118 = ad120 := (by injection e120)
                        replace hx120_0 := (HB.out.cell (World.block_lt_of_cell? w _ hx120_0)).trans hx120_0
                        replace p120 := eq_true p120
                        replace q120 := eq_true q120
                        have p121 : 0 ≤ (x5_1 : Int) := of_decide_eq_true (by first | (with_reducible assumption) | assumption)
                        have q121 : x5_1 < (l0.length : Int) := of_decide_eq_true (by first | (with_reducible assumption) | assumption)
                        obtain ⟨ad121, e121, hx121_0⟩ := Kd.at_int HR0.out x5_1 p121 q121
                        have hw121_0 := hx121_0
                        obtain rfl : ad118 = ad121 := (by injection e121)
                        replace hx121_0 := (HB.out.cell (World.block_lt_of_cell? w _ hx121_0)).trans hx121_0
                        replace p121 := eq_true p121
                        replace q121 := eq_true q121
                        refine start_ (n := 13) (S := fun w' => w'.cell? (ad118.add (x4_1).toNat) = some (.int .i64 (rd l0 x4_1)) ∧ w'.cell? (ad118.add (x5_1).toNat) = some (.int .i64 (rd l0 x5_1))) (ds := []) x5q19 (by kernel_rfl) rfl rfl ⟨((HB.out.cell (World.block_lt_of_cell? w _ hw120_0)).trans hw120_0), ((HB.out.cell (World.block_lt_of_cell? w _ hw121_0)).trans hw121_0)⟩ (fun hHeld => ?_); refine with_tabW secateurref02_Pack.tab6 secateurref02_Pack.bits6 (fun HT_ HW_ => ?_)
                        generalize w22.drew = w23 at HO_3 HB hx120_0 hx121_0 hHeld ⊢
                        refine pure_ (i := 0) (N := some 31) (v := ?_) (a' := ?_) x5q20 rfl rfl (any_of HT_.out (by kernel_rfl)) (fun _ _ _ h => h) (Or.inl ⟨by rfl, ?_⟩) ?_ ?_
                        rotate_left; (· intro w'; go_simp; with_reducible rfl); rotate_left; (· simp only [Act.put, x5sa, x5sz, x5ss, i64_w, i32_w]; rfl)
                        refine pure_ (i := 1) (N := some 32) (v := ?_) (a' := ?_) x5q21 rfl rfl (any_of HT_.out (by kernel_rfl)) (fun _ _ _ h => h) (Or.inl ⟨by rfl, ?_⟩) ?_ ?_
                        rotate_left; (· intro w'; go_simp; with_reducible rfl); rotate_left; (· simp only [Act.put, x5sa, x5sz, x5ss, i64_w, i32_w]; rfl)
                        refine pure_ (i := 2) (N := some 33) (v := ?_) (a' := ?_) x5q22 rfl rfl (any_of HT_.out (by kernel_rfl)) (fun _ _ _ h => h) (Or.inl ⟨by rfl, ?_⟩) ?_ ?_
                        rotate_left; (· intro w'; go_simp; with_reducible rfl); rotate_left; (· simp only [Act.put, x5sa, x5sz, x5ss, i64_w, i32_w]; rfl)
                        refine pure_ (i := 3) (N := some 34) (v := ?_) (a' := ?_) x5q23 rfl rfl (any_of HT_.out (by kernel_rfl)) (fun _ _ _ h => h) (Or.inl ⟨by rfl, ?_⟩) ?_ ?_
                        rotate_left; (· intro w'; go_simp; with_reducible rfl); rotate_left; (· simp only [Act.put, x5sa, x5sz, x5ss, i64_w, i32_w]; rfl)
                        refine pure_ (i := 5) (N := some 36) (v := ?_) (a' := ?_) x5q24 rfl rfl (any_of HT_.out (by kernel_rfl)) (fun _ _ _ h => h) (Or.inl ⟨by rfl, ?_⟩) ?_ ?_
                        rotate_left; (· intro w'; go_simp; with_reducible rfl); rotate_left; (· simp only [Act.put, x5sa, x5sz, x5ss, i64_w, i32_w]; rfl)
                        refine pure_ (i := 6) (N := some 37) (v := ?_) (a' := ?_) x5q25 rfl rfl (any_of HT_.out (by kernel_rfl)) (fun _ _ _ h => h) (Or.inl ⟨by rfl, ?_⟩) ?_ ?_
                        rotate_left; (· intro w'; go_simp; with_reducible rfl); rotate_left; (· simp only [Act.put, x5sa, x5sz, x5ss, i64_w, i32_w]; rfl)
                        refine pure_ (i := 7) (N := some 38) (v := ?_) (a' := ?_) x5q26 rfl rfl (any_of HT_.out (by kernel_rfl)) (fun _ _ _ h => h) (Or.inl ⟨by rfl, ?_⟩) ?_ ?_
                        rotate_left; (· intro w'; go_simp; with_reducible rfl); rotate_left; (· simp only [Act.put, x5sa, x5sz, x5ss, i64_w, i32_w]; rfl)
                        refine take_ (i := 4) (N := some 35) (v := ?_) (a' := ?_) x5q27 rfl rfl (take_ofW HT_.out HW_.out (by kernel_rfl)) (fun _ _ _ h => h) (Or.inl ⟨by rfl, ?_⟩) hHeld ?_ ?_
                        rotate_left; (· rintro w' ⟨s0, s1⟩; go_simp; with_reducible rfl); rotate_left; (· simp only [Act.put, x5sa, x5sz, x5ss, i64_w, i32_w]; rfl)
                        refine take_ (i := 8) (N := some 39) (v := ?_) (a' := ?_) x5q28 rfl rfl (take_ofW HT_.out HW_.out (by kernel_rfl)) (fun _ _ _ h => h) (Or.inl ⟨by rfl, ?_⟩) hHeld ?_ ?_
                        rotate_left; (· rintro w' ⟨s0, s1⟩; go_simp; with_reducible rfl); rotate_left; (· simp only [Act.put, x5sa, x5sz, x5ss, i64_w, i32_w]; rfl)
                        refine pure_ (i := 9) (N := some 40) (v := ?_) (a' := ?_) x5q29 rfl rfl (any_of HT_.out (by kernel_rfl)) (fun _ _ _ h => h) (Or.inl ⟨by rfl, ?_⟩) ?_ ?_
                        rotate_left; (· intro w'; go_simp; with_reducible rfl); rotate_left; (· simp only [Act.put, x5sa, x5sz, x5ss, i64_w, i32_w]; rfl)
                        refine one_ (i := 10) (N := some 41) x5q30 rfl rfl (one_of HT_.out (by kernel_rfl)) (by decide) (fun K hK => ?_)
                        refine value_ (w1 := ?_) (v := ?_) (by rfl) rfl ?_ ?_
                        rotate_left 2
                        · go_simp
                          constructor
                          · rfl
                          · rfl
                        refine hK.out _ _ ⟨(World.cell?_alloc_lt _ _ _ (World.block_lt_of_cell? _ _ (((HB.out.cell (World.block_lt_of_cell? w _ hw120_0)).trans hw120_0)))).trans (((HB.out.cell (World.block_lt_of_cell? w _ hw120_0)).trans hw120_0)), (World.cell?_alloc_lt _ _ _ (World.block_lt_of_cell? _ _ (((HB.out.cell (World.block_lt_of_cell? w _ hw121_0)).trans hw121_0)))).trans (((HB.out.cell (World.block_lt_of_cell? w _ hw121_0)).trans hw121_0))⟩ (fun hHeld => ?_)
                        clear hK K
                        refine norm_ (a' := ?_) ?_ ?_
                        rotate_left
                        · show Act.put _ (some 41) _ = _
                          simp only [Act.put, x5sa, x5sz, x5ss, i64_w, i32_w]
                          rfl
                        refine one_ (i := 11) (N := some 42) x5q31 rfl rfl (one_of HT_.out (by kernel_rfl)) (by decide) (fun K hK => ?_)
                        refine Kd.R_append_step k62 (w0 := w) w.heap.size (by rfl) (.tmp 31) (.tmp 41) 31 62 (.agg #[(.int .i64 0), (.int .i64 0)]) 16 rfl Try.underlying31 info62 rfl (by decide) (by omega) u3 x3_1 (⟨rd l0 x4_1, rd l0 x5_1⟩ : S62) [.int .i64 (rd l0 x4_1), .int .i64 (rd l0 x5_1)] (fun _ => True) (fun _ => False) rfl rfl ?aP (fun _ hk => hk.elim) ?aF ?aO ?aB ?aS ?aL ?_
                        (case aP => exact k62_mkM _ _ _ (⟨rd l0 x4_1, rd l0 x5_1⟩ : S62))
                        (case aB => exact (by repeat (first | (with_reducible first | exact HB.out | apply below_alloc | apply pw_below_drewN | apply below_drew1) | exact HB.out)))
                        (case aF => exact (fun _ _ => trivial))
                        (case aO => exact (by (with_reducible repeat (first | apply Kd.R_alloc | apply Kd.R_drewN | apply Kd.R_drew)); exact HO_3.out))
                        (case aS => exact (below_size (by repeat (first | (with_reducible first | exact HB.out | apply below_alloc | apply pw_below_drewN | apply below_drew1) | exact HB.out))))
                        (case aL => have := LMc21.out; omega)
                        intro v123 w24 ho hb hg hat
                        rw [← Ny122.out] at ho
                        have n0_ := Aside0.mk (hb)
                        have n1_ := Aside0.mk (ho)
                        clear HB
                        clear HO_3
                        have HB := n0_
                        have HO124 := n1_
                        clear n0_ n1_
                        clear ho hb hg hat
                        refine hK.out _ _ ⟨((HB.out.cell (World.block_lt_of_cell? w _ hw120_0)).trans hw120_0), ((HB.out.cell (World.block_lt_of_cell? w _ hw121_0)).trans hw121_0)⟩ (fun hHeld => ?_)
                        clear hK K
                        refine norm_ (a' := ?_) ?_ ?_
                        rotate_left
                        · show Act.put _ (some 42) _ = _
                          simp only [Act.put, x5sa, x5sz, x5ss, i64_w, i32_w]
                          rfl
                        refine pure_ (i := 12) (N := some 3) (v := ?_) (a' := ?_) x5q32 rfl rfl (any_of HT_.out (by kernel_rfl)) (fun _ _ _ h => h) (Or.inl ⟨by rfl, ?_⟩) ?_ ?_
                        rotate_left; (· intro w'; go_simp; with_reducible rfl); rotate_left; (· simp only [Act.put, x5sa, x5sz, x5ss, i64_w, i32_w]; rfl)
                        refine done_ (done_of HT_.out (by kernel_rfl)) ?_
                        try go_wp2
                        go_roundg k1
                        case measure => have := HK1.out; omega
                        case rel => exact ⟨(y122), (ji13), (ji13), (by first | rfl | (simp; done) | (simp only [← hji13] <;> (first | rfl | simp)) | (simp [*]; done)), (by first | rfl | (simp; done) | (simp only [← hji13] <;> (first | rfl | simp)) | (simp [*]; done)), H', ⟨by have := HK1.out; omega⟩, ⟨by (with_reducible repeat (first | apply Kd.R_alloc | apply Kd.R_drewN | apply Kd.R_drew)); exact HO124.out⟩, ⟨by repeat (first | (with_reducible first | exact HB.out | apply below_alloc | apply pw_below_drewN | apply below_drew1) | exact HB.out)⟩⟩
                      · rw [if_neg c21] at H
                        exact absurd H (by simp)
                    · rw [if_neg c20] at H
                      exact absurd H (by simp)
                  · rw [if_neg c19] at H
                    exact absurd H (by simp)
              · rw [if_neg c16] at H
                exact absurd H (by simp)
            · rw [if_neg c15] at H
              exact absurd H (by simp)
          · rw [if_neg c14] at H
            exact absurd H (by simp)
      · rw [if_neg c4] at H
        have c4b0 : decide (x5_1 < (l0.length : Int)) = false := decide_eq_false c4
        clear c4
        obtain rfl := Option.some.inj H
        go_wp2
        go_ret
        exact ⟨_, by first | rfl | (simp [errW_none, errW_some] <;> rfl) | (simp [*, errW_none, errW_some] <;> rfl), by (with_reducible repeat (first | apply Kd.R_alloc | apply Kd.R_drewN | apply Kd.R_drew)); exact HO_3.out, by repeat (first | (with_reducible first | exact HB.out | apply below_alloc | apply pw_below_drewN | apply below_drew1) | exact HB.out)⟩

end Go.Proofs.Ytcjachhdoogbaaa.PT
