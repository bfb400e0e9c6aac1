-- PRINTED BY print.sh 35421559b90ae4d0a3588c463048766b98c2df88dd9212a6774a882060cdf62d: not written by this session
import Derived.Test.YtjdmgnghdkmopaaPIntsBackx0
import Derived.Test.YtjdmgnghdkmopaaPIntsBackx1
import Derived.Test.YtjdmgnghdkmopaaPIntsBackx2
namespace Go.Proofs.Ytjdmgnghdkmopaa.PIntsBack
open Go.RowKit Go.Proofs.YtjdmgnghdkmopaaW.PrintWords Go.Proofs.YtjdmgnghdkmopaaW.PrintLast Go.Proofs.YtjdmgnghdkmopaaW.PrintMore
attribute [local go_sem] max2_int min2_int max_two min_two max_three min_three max_four min_four   -- for this text's walks alone
set_option linter.unusedVariables false
set_option linter.unusedSimpArgs false

/-! ### secateurlaw01_IntsBack: function 11 -/
mutual
def secateurlaw01_IntsBack.j0 : Nat → Int → Int → Int → Bool → Bool → Option (Bool)
  | 0, _, _, _, _, _ => none
  | k + 1, x0, x1, x5, x6, x38 => if x38 = true then (some false) else ((ints_Sub.f k x5 x1).bind fun bt176 => (if x6 = true then (if bt176.2 = true then (secateurlaw01_IntsBack.j1 k x0 x1 (bt176.1 != x0)) else (secateurlaw01_IntsBack.j1 k x0 x1 true)) else (secateurlaw01_IntsBack.j1 k x0 x1 false)))
def secateurlaw01_IntsBack.j1 : Nat → Int → Int → Bool → Option (Bool)
  | 0, _, _, _ => none
  | k + 1, x0, x1, x54 => if x54 = true then (some false) else ((ints_Mul.f k x0 x1).bind fun bt178 => ((ints_Mul.f k x1 x0).bind fun bt180 => (if (bt178.2 != bt180.2) = true then (secateurlaw01_IntsBack.j2 k x0 x1 bt178.1 bt178.2 true) else (secateurlaw01_IntsBack.j2 k x0 x1 bt178.1 bt178.2 (bt178.1 != bt180.1)))))
def secateurlaw01_IntsBack.j2 : Nat → Int → Int → Int → Bool → Bool → Option (Bool)
  | 0, _, _, _, _, _ => none
  | k + 1, x0, x1, x11, x12, x74 => if x74 = true then (some false) else (if x12 = true then (secateurlaw01_IntsBack.j3 k x0 x1 x11 (x1 != 0)) else (secateurlaw01_IntsBack.j3 k x0 x1 x11 false))
def secateurlaw01_IntsBack.j3 : Nat → Int → Int → Int → Bool → Option (Bool)
  | 0, _, _, _, _ => none
  | k + 1, x0, x1, x11, x79 => if x79 = true then ((ints_Floor.f k x11 x1).bind fun bt182 => ((ints_Ceil.f k x11 x1).bind fun bt184 => (if bt182.2 = 0 then (if bt184.2 = 0 then (if bt182.1 = x0 then (if bt184.1 = x0 then ((secateurlaw01_fixed.f k).bind fun t186 => (some t186)) else (some false)) else (some false)) else (some false)) else (some false)))) else ((secateurlaw01_fixed.f k).bind fun t187 => (some t187))
end
def secateurlaw01_IntsBack.f (k : Nat) (a0 : Int) (a1 : Int) : Option (Bool) := (ints_Add.f k a0 a1).bind fun bt172 => ((ints_Add.f k a1 a0).bind fun bt174 => (if (bt172.2 != bt174.2) = true then (secateurlaw01_IntsBack.j0 k a0 a1 bt172.1 bt172.2 true) else (secateurlaw01_IntsBack.j0 k a0 a1 bt172.1 bt172.2 (bt172.1 != bt174.1))))
theorem secateurlaw01_IntsBack.mono_l : ∀ k, (∀ y0 y1 y2 y3 y4, LeO (secateurlaw01_IntsBack.j0 k y0 y1 y2 y3 y4) (secateurlaw01_IntsBack.j0 (k + 1) y0 y1 y2 y3 y4)) ∧ (∀ y0 y1 y2, LeO (secateurlaw01_IntsBack.j1 k y0 y1 y2) (secateurlaw01_IntsBack.j1 (k + 1) y0 y1 y2)) ∧ (∀ y0 y1 y2 y3 y4, LeO (secateurlaw01_IntsBack.j2 k y0 y1 y2 y3 y4) (secateurlaw01_IntsBack.j2 (k + 1) y0 y1 y2 y3 y4)) ∧ (∀ y0 y1 y2 y3, LeO (secateurlaw01_IntsBack.j3 k y0 y1 y2 y3) (secateurlaw01_IntsBack.j3 (k + 1) y0 y1 y2 y3))
  | 0 => ⟨fun _ _ _ _ _ r h => by simp [secateurlaw01_IntsBack.j0] at h, fun _ _ _ r h => by simp [secateurlaw01_IntsBack.j1] at h, fun _ _ _ _ _ r h => by simp [secateurlaw01_IntsBack.j2] at h, fun _ _ _ _ r h => by simp [secateurlaw01_IntsBack.j3] at h⟩
  | k + 1 => by
    obtain ⟨ih0, ih1, ih2, ih3⟩ := secateurlaw01_IntsBack.mono_l k
    refine ⟨?_, ?_, ?_, ?_⟩
    · intro y0 y1 y2 y3 y4
      unfold secateurlaw01_IntsBack.j0
      repeat' first
      | (with_reducible exact ih0 _ _ _ _ _)
      | (with_reducible exact ih1 _ _ _)
      | (with_reducible exact ih2 _ _ _ _ _)
      | (with_reducible exact ih3 _ _ _ _)
      | (with_reducible exact ints_Add.mono _ _ _)
      | (with_reducible exact ints_Ceil.mono _ _ _)
      | (with_reducible exact ints_Floor.mono _ _ _)
      | (with_reducible exact ints_Mul.mono _ _ _)
      | (with_reducible exact ints_Sub.mono _ _ _)
      | (with_reducible exact secateurlaw01_fixed.mono _)
      | (with_reducible exact LeO.refl _)
      | (with_reducible exact LeO.none _)
      | (with_reducible refine LeO.ite ?_ ?_)
      | (with_reducible refine LeO.bind ?_ (fun _ => ?_))
      | exact ih0 _ _ _ _ _
      | exact ih1 _ _ _
      | exact ih2 _ _ _ _ _
      | exact ih3 _ _ _ _
      | exact ints_Add.mono _ _ _
      | exact ints_Ceil.mono _ _ _
      | exact ints_Floor.mono _ _ _
      | exact ints_Mul.mono _ _ _
      | exact ints_Sub.mono _ _ _
      | exact secateurlaw01_fixed.mono _
      | exact LeO.none _
      | refine LeO.ite ?_ ?_
      | refine LeO.bind ?_ (fun _ => ?_)
    · intro y0 y1 y2
      unfold secateurlaw01_IntsBack.j1
      repeat' first
      | (with_reducible exact ih0 _ _ _ _ _)
      | (with_reducible exact ih1 _ _ _)
      | (with_reducible exact ih2 _ _ _ _ _)
      | (with_reducible exact ih3 _ _ _ _)
      | (with_reducible exact ints_Add.mono _ _ _)
      | (with_reducible exact ints_Ceil.mono _ _ _)
      | (with_reducible exact ints_Floor.mono _ _ _)
      | (with_reducible exact ints_Mul.mono _ _ _)
      | (with_reducible exact ints_Sub.mono _ _ _)
      | (with_reducible exact secateurlaw01_fixed.mono _)
      | (with_reducible exact LeO.refl _)
      | (with_reducible exact LeO.none _)
      | (with_reducible refine LeO.ite ?_ ?_)
      | (with_reducible refine LeO.bind ?_ (fun _ => ?_))
      | exact ih0 _ _ _ _ _
      | exact ih1 _ _ _
      | exact ih2 _ _ _ _ _
      | exact ih3 _ _ _ _
      | exact ints_Add.mono _ _ _
      | exact ints_Ceil.mono _ _ _
      | exact ints_Floor.mono _ _ _
      | exact ints_Mul.mono _ _ _
      | exact ints_Sub.mono _ _ _
      | exact secateurlaw01_fixed.mono _
      | exact LeO.none _
      | refine LeO.ite ?_ ?_
      | refine LeO.bind ?_ (fun _ => ?_)
    · intro y0 y1 y2 y3 y4
      unfold secateurlaw01_IntsBack.j2
      repeat' first
      | (with_reducible exact ih0 _ _ _ _ _)
      | (with_reducible exact ih1 _ _ _)
      | (with_reducible exact ih2 _ _ _ _ _)
      | (with_reducible exact ih3 _ _ _ _)
      | (with_reducible exact ints_Add.mono _ _ _)
      | (with_reducible exact ints_Ceil.mono _ _ _)
      | (with_reducible exact ints_Floor.mono _ _ _)
      | (with_reducible exact ints_Mul.mono _ _ _)
      | (with_reducible exact ints_Sub.mono _ _ _)
      | (with_reducible exact secateurlaw01_fixed.mono _)
      | (with_reducible exact LeO.refl _)
      | (with_reducible exact LeO.none _)
      | (with_reducible refine LeO.ite ?_ ?_)
      | (with_reducible refine LeO.bind ?_ (fun _ => ?_))
      | exact ih0 _ _ _ _ _
      | exact ih1 _ _ _
      | exact ih2 _ _ _ _ _
      | exact ih3 _ _ _ _
      | exact ints_Add.mono _ _ _
      | exact ints_Ceil.mono _ _ _
      | exact ints_Floor.mono _ _ _
      | exact ints_Mul.mono _ _ _
      | exact ints_Sub.mono _ _ _
      | exact secateurlaw01_fixed.mono _
      | exact LeO.none _
      | refine LeO.ite ?_ ?_
      | refine LeO.bind ?_ (fun _ => ?_)
    · intro y0 y1 y2 y3
      unfold secateurlaw01_IntsBack.j3
      repeat' first
      | (with_reducible exact ih0 _ _ _ _ _)
      | (with_reducible exact ih1 _ _ _)
      | (with_reducible exact ih2 _ _ _ _ _)
      | (with_reducible exact ih3 _ _ _ _)
      | (with_reducible exact ints_Add.mono _ _ _)
      | (with_reducible exact ints_Ceil.mono _ _ _)
      | (with_reducible exact ints_Floor.mono _ _ _)
      | (with_reducible exact ints_Mul.mono _ _ _)
      | (with_reducible exact ints_Sub.mono _ _ _)
      | (with_reducible exact secateurlaw01_fixed.mono _)
      | (with_reducible exact LeO.refl _)
      | (with_reducible exact LeO.none _)
      | (with_reducible refine LeO.ite ?_ ?_)
      | (with_reducible refine LeO.bind ?_ (fun _ => ?_))
      | exact ih0 _ _ _ _ _
      | exact ih1 _ _ _
      | exact ih2 _ _ _ _ _
      | exact ih3 _ _ _ _
      | exact ints_Add.mono _ _ _
      | exact ints_Ceil.mono _ _ _
      | exact ints_Floor.mono _ _ _
      | exact ints_Mul.mono _ _ _
      | exact ints_Sub.mono _ _ _
      | exact secateurlaw01_fixed.mono _
      | exact LeO.none _
      | refine LeO.ite ?_ ?_
      | refine LeO.bind ?_ (fun _ => ?_)
theorem secateurlaw01_IntsBack.mono : ∀ a0 a1 k, LeO (secateurlaw01_IntsBack.f k a0 a1) (secateurlaw01_IntsBack.f (k + 1) a0 a1) := by
  intro a0 a1 k
  obtain ⟨ih0, ih1, ih2, ih3⟩ := secateurlaw01_IntsBack.mono_l k
  unfold secateurlaw01_IntsBack.f
  repeat' first
      | (with_reducible exact ih0 _ _ _ _ _)
      | (with_reducible exact ih1 _ _ _)
      | (with_reducible exact ih2 _ _ _ _ _)
      | (with_reducible exact ih3 _ _ _ _)
      | (with_reducible exact ints_Add.mono _ _ _)
      | (with_reducible exact ints_Ceil.mono _ _ _)
      | (with_reducible exact ints_Floor.mono _ _ _)
      | (with_reducible exact ints_Mul.mono _ _ _)
      | (with_reducible exact ints_Sub.mono _ _ _)
      | (with_reducible exact secateurlaw01_fixed.mono _)
      | (with_reducible exact LeO.refl _)
      | (with_reducible exact LeO.none _)
      | (with_reducible refine LeO.ite ?_ ?_)
      | (with_reducible refine LeO.bind ?_ (fun _ => ?_))
      | exact ih0 _ _ _ _ _
      | exact ih1 _ _ _
      | exact ih2 _ _ _ _ _
      | exact ih3 _ _ _ _
      | exact ints_Add.mono _ _ _
      | exact ints_Ceil.mono _ _ _
      | exact ints_Floor.mono _ _ _
      | exact ints_Mul.mono _ _ _
      | exact ints_Sub.mono _ _ _
      | exact secateurlaw01_fixed.mono _
      | exact LeO.none _
      | refine LeO.ite ?_ ?_
      | refine LeO.bind ?_ (fun _ => ?_)
set_option maxHeartbeats 8000000 in
set_option maxRecDepth 100000 in
theorem secateurlaw01_IntsBack.calls (k : Nat) (a0 : Int) (a1 : Int) (r : Bool) (w : World) (h : secateurlaw01_IntsBack.f k a0 a1 = some r) :
    Calls Try.prog 11 #[.int .i64 a0, .int .i64 a1] w fun e w' => e = .returned (.bool r) ∧ Below w.heap.size w w' := by
  have HB := Aside0.mk (Below.refl w.heap.size w)
  have H : ((ints_Add.f k a0 a1).bind fun bt172 => ((ints_Add.f k a1 a0).bind fun bt174 => (if (bt172.2 != bt174.2) = true then (secateurlaw01_IntsBack.j0 k a0 a1 bt172.1 bt172.2 true) else (secateurlaw01_IntsBack.j0 k a0 a1 bt172.1 bt172.2 (bt172.1 != bt174.1))))) = some r := h
  clear h
  replace H := Option.bind_eq_some_iff.mp H
  obtain ⟨⟨t172, t173⟩, A30, H⟩ := H
  replace H : ((ints_Add.f k a1 a0).bind fun bt174 => (if (t173 != bt174.2) = true then (secateurlaw01_IntsBack.j0 k a0 a1 t172 t173 true) else (secateurlaw01_IntsBack.j0 k a0 a1 t172 t173 (t172 != bt174.1)))) = some r := H
  have A3 := Aside0.mk A30
  clear A30
  replace H := Option.bind_eq_some_iff.mp H
  obtain ⟨⟨t174, t175⟩, A40, H⟩ := H
  replace H : (if (t173 != t175) = true then (secateurlaw01_IntsBack.j0 k a0 a1 t172 t173 true) else (secateurlaw01_IntsBack.j0 k a0 a1 t172 t173 (t172 != t174))) = some r := H
  have A4 := Aside0.mk A40
  clear A40
  have HC5 := Aside0.mk H
  clear H
  go_enter Try.func11, Try.ntmps11
  go_upto_region 3 with (first | ((with_reducible refine gate_callee (f := 22) rfl ?_); refine goesL_ (some 22) rfl rfl Try.func22 (by kernel_rfl) rfl #[.int .i64 a0, .int .i64 a1] rfl (by (try simp only [List.map_toArray, List.map_cons, List.map_nil]); first | done | rfl | (simp only [List.length_drop, List.length_take]; rfl)) ?_; (with_reducible refine (ints_Add.calls k a0 a1 t172 t173 _ A3.out).mono ?_); rintro e w6 ⟨rfl, hb⟩; refine ⟨_, rfl, ?_⟩; have n0_ := Aside0.mk (below_step (by repeat (first | (with_reducible first | exact HB.out | apply below_alloc | apply pw_below_drewN | apply below_drew1) | exact HB.out)) hb); clear HB; have HB := n0_; clear n0_; (try clear hb); (try clear hb2); (try clear hk); (try clear hi)) | ((with_reducible refine gate_callee (f := 22) rfl ?_); refine goesL_ (some 28) rfl rfl Try.func22 (by kernel_rfl) rfl #[.int .i64 a1, .int .i64 a0] rfl (by (try simp only [List.map_toArray, List.map_cons, List.map_nil]); first | done | rfl | (simp only [List.length_drop, List.length_take]; rfl)) ?_; (with_reducible refine (ints_Add.calls k a1 a0 t174 t175 _ A4.out).mono ?_); rintro e w7 ⟨rfl, hb⟩; refine ⟨_, rfl, ?_⟩; have n0_ := Aside0.mk (below_step (by repeat (first | (with_reducible first | exact HB.out | apply below_alloc | apply pw_below_drewN | apply below_drew1) | exact HB.out)) hb); clear HB; have HB := n0_; clear n0_; (try clear hb); (try clear hb2); (try clear hk); (try clear hi)))
  (try simp only [Act.put, List.setIfInBounds_toArray, List.set_cons_zero, List.set_cons_succ])
  go_cut [38] (fun v38 wc => ∃ (kq : Nat) (x38_4 : Bool), v38 = .bool x38_4 ∧ Aside0 (secateurlaw01_IntsBack.j0 kq a0 a1 t172 t173 x38_4 = some r) ∧ Aside0 (kq ≤ k) ∧ Aside0 (Below w.heap.size w wc))
  case first =>
    have H := HC5.out
    clear HC5
    by_cases c8 : (t173 != t175) = true
    · rw [if_pos c8] at H
      have c8b0 : (t173 != t175) = true := c8
      (try (have c8b1 : decide (t173 = t175) = false := by simpa using c8))
      (try (have c8b2 : (t173 == t175) = false := by simpa using c8))
      (try (have c8b3 : ¬ (t173 = t175) := by simpa using c8))
      clear c8
      (first | rw [c8b0] | (simp only [i64_w, i32_w]; rw [c8b0]) | skip)
      have H' := Aside0.mk H
      clear H
      go_wp2
      go_meet
      case rel => exact ⟨_, (true), (by first | rfl | (simp; done) | (simp [*]; done)), H', ⟨by first | omega | exact Nat.le_refl _⟩, ⟨by repeat (first | (with_reducible first | exact HB.out | apply below_alloc | apply pw_below_drewN | apply below_drew1) | exact HB.out)⟩⟩
    · rw [if_neg c8] at H
      have c8b0 : (t173 != t175) = false := by simpa using c8
      (try (have c8b1 : decide (t173 = t175) = true := by simpa using c8))
      (try (have c8b2 : (t173 == t175) = true := by simpa using c8))
      clear c8
      (first | rw [c8b0] | (simp only [i64_w, i32_w]; rw [c8b0]) | skip)
      have H' := Aside0.mk H
      clear H
      go_wp2
      go_meet
      case rel => exact ⟨_, ((t172 != t174)), (by first | rfl | (simp; done) | (simp [*]; done)), H', ⟨by first | omega | exact Nat.le_refl _⟩, ⟨by repeat (first | (with_reducible first | exact HB.out | apply below_alloc | apply pw_below_drewN | apply below_drew1) | exact HB.out)⟩⟩
  case rest =>
    clear HC5
    try clear c1
    try clear c2
    try clear p2
    try clear c8
    try clear c8b0
    try clear c8b1
    try clear c8b2
    obtain ⟨kq, x38_4, rfl, HA, HJ4, HB⟩ := hcut
    cases kq with
    | zero => exact absurd HA.out (by simp [secateurlaw01_IntsBack.j0])
    | succ kj4 =>
      have H := HA.out
      clear HA
      simp only [secateurlaw01_IntsBack.j0] at H
      by_cases c9 : x38_4 = true
      · subst c9
        have H1 : (some false) = some r := by rw [if_pos rfl] at H; exact H
        clear H
        have H := H1
        clear H1
        obtain rfl := Option.some.inj H
        go_wp2
        go_ret
        exact ⟨by first | rfl | (simp [errW_none, errW_some] <;> rfl) | (simp [*, errW_none, errW_some] <;> rfl), by repeat (first | (with_reducible first | exact HB.out | apply below_alloc | apply pw_below_drewN | apply below_drew1) | exact HB.out)⟩
      · replace c9 := Bool.eq_false_iff.mpr c9
        subst c9
        have H1 : ((ints_Sub.f kj4 t172 a1).bind fun bt176 => (if t173 = true then (if bt176.2 = true then (secateurlaw01_IntsBack.j1 kj4 a0 a1 (bt176.1 != a0)) else (secateurlaw01_IntsBack.j1 kj4 a0 a1 true)) else (secateurlaw01_IntsBack.j1 kj4 a0 a1 false))) = some r := by rw [if_neg (show ¬ (false = true) by decide)] at H; exact H
        clear H
        have H := H1
        clear H1
        replace H := Option.bind_eq_some_iff.mp H
        obtain ⟨⟨t176, t177⟩, A100, H⟩ := H
        replace H : (if t173 = true then (if t177 = true then (secateurlaw01_IntsBack.j1 kj4 a0 a1 (t176 != a0)) else (secateurlaw01_IntsBack.j1 kj4 a0 a1 true)) else (secateurlaw01_IntsBack.j1 kj4 a0 a1 false)) = some r := H
        have A10 := Aside0.mk A100
        clear A100
        have HC11 := Aside0.mk H
        clear H
        go_upto_region 6 with (first | ((with_reducible refine gate_callee (f := 25) rfl ?_); refine goesL_ (some 42) rfl rfl Try.func25 (by kernel_rfl) rfl #[.int .i64 t172, .int .i64 a1] rfl (by (try simp only [List.map_toArray, List.map_cons, List.map_nil]); first | done | rfl | (simp only [List.length_drop, List.length_take]; rfl)) ?_; (with_reducible refine (ints_Sub.calls kj4 t172 a1 t176 t177 _ A10.out).mono ?_); rintro e w12 ⟨rfl, hb⟩; refine ⟨_, rfl, ?_⟩; have n0_ := Aside0.mk (below_step (by repeat (first | (with_reducible first | exact HB.out | apply below_alloc | apply pw_below_drewN | apply below_drew1) | exact HB.out)) hb); clear HB; have HB := n0_; clear n0_; (try clear hb); (try clear hb2); (try clear hk); (try clear hi)))
        (try simp only [Act.put, List.setIfInBounds_toArray, List.set_cons_zero, List.set_cons_succ])
        go_cut [54] (fun v54 wc => ∃ (kq : Nat) (x54_10 : Bool), v54 = .bool x54_10 ∧ Aside0 (secateurlaw01_IntsBack.j1 kq a0 a1 x54_10 = some r) ∧ Aside0 (kq ≤ kj4) ∧ Aside0 (Below w.heap.size w wc))
        case first =>
          have H := HC11.out
          clear HC11
          by_cases c13 : t173 = true
          · subst c13
            have H1 : (if t177 = true then (secateurlaw01_IntsBack.j1 kj4 a0 a1 (t176 != a0)) else (secateurlaw01_IntsBack.j1 kj4 a0 a1 true)) = some r := by rw [if_pos rfl] at H; exact H
            clear H
            have H := H1
            clear H1
            by_cases c14 : t177 = true
            · subst c14
              have H1 : (secateurlaw01_IntsBack.j1 kj4 a0 a1 (t176 != a0)) = some r := by rw [if_pos rfl] at H; exact H
              clear H
              have H := H1
              clear H1
              have H' := Aside0.mk H
              clear H
              go_wp2
              go_meet
              case rel => exact ⟨_, ((t176 != a0)), (by first | rfl | (simp; done) | (simp [*]; done)), H', ⟨by have := HJ4.out; first | omega | exact Nat.le_refl _⟩, ⟨by repeat (first | (with_reducible first | exact HB.out | apply below_alloc | apply pw_below_drewN | apply below_drew1) | exact HB.out)⟩⟩
            · replace c14 := Bool.eq_false_iff.mpr c14
              subst c14
              have H1 : (secateurlaw01_IntsBack.j1 kj4 a0 a1 true) = some r := by rw [if_neg (show ¬ (false = true) by decide)] at H; exact H
              clear H
              have H := H1
              clear H1
              have H' := Aside0.mk H
              clear H
              go_wp2
              go_meet
              case rel => exact ⟨_, (true), (by first | rfl | (simp; done) | (simp [*]; done)), H', ⟨by have := HJ4.out; first | omega | exact Nat.le_refl _⟩, ⟨by repeat (first | (with_reducible first | exact HB.out | apply below_alloc | apply pw_below_drewN | apply below_drew1) | exact HB.out)⟩⟩
          · replace c13 := Bool.eq_false_iff.mpr c13
            subst c13
            have H1 : (secateurlaw01_IntsBack.j1 kj4 a0 a1 false) = some r := by rw [if_neg (show ¬ (false = true) by decide)] at H; exact H
            clear H
            have H := H1
            clear H1
            have H' := Aside0.mk H
            clear H
            go_wp2
            go_meet
            case rel => exact ⟨_, (false), (by first | rfl | (simp; done) | (simp [*]; done)), H', ⟨by have := HJ4.out; first | omega | exact Nat.le_refl _⟩, ⟨by repeat (first | (with_reducible first | exact HB.out | apply below_alloc | apply pw_below_drewN | apply below_drew1) | exact HB.out)⟩⟩
        case rest =>
          clear HC11
          try clear c1
          try clear c2
          try clear p2
          try clear c8
          try clear c8b0
          try clear c8b1
          try clear c8b2
          try clear c9
          try clear c11
          try clear c13
          try clear c14
          try clear p2
          obtain ⟨kq, x54_10, rfl, HA, HJ10, HB⟩ := hcut
          cases kq with
          | zero => exact absurd HA.out (by simp [secateurlaw01_IntsBack.j1])
          | succ kj10 =>
            have H := HA.out
            clear HA
            simp only [secateurlaw01_IntsBack.j1] at H
            by_cases c15 : x54_10 = true
            · subst c15
              have H1 : (some false) = some r := by rw [if_pos rfl] at H; exact H
              clear H
              have H := H1
              clear H1
              obtain rfl := Option.some.inj H
              go_wp2
              go_ret
              exact ⟨by first | rfl | (simp [errW_none, errW_some] <;> rfl) | (simp [*, errW_none, errW_some] <;> rfl), by repeat (first | (with_reducible first | exact HB.out | apply below_alloc | apply pw_below_drewN | apply below_drew1) | exact HB.out)⟩
            · replace c15 := Bool.eq_false_iff.mpr c15
              subst c15
              have H1 : ((ints_Mul.f kj10 a0 a1).bind fun bt178 => ((ints_Mul.f kj10 a1 a0).bind fun bt180 => (if (bt178.2 != bt180.2) = true then (secateurlaw01_IntsBack.j2 kj10 a0 a1 bt178.1 bt178.2 true) else (secateurlaw01_IntsBack.j2 kj10 a0 a1 bt178.1 bt178.2 (bt178.1 != bt180.1))))) = some r := by rw [if_neg (show ¬ (false = true) by decide)] at H; exact H
              clear H
              have H := H1
              clear H1
              replace H := Option.bind_eq_some_iff.mp H
              obtain ⟨⟨t178, t179⟩, A160, H⟩ := H
              replace H : ((ints_Mul.f kj10 a1 a0).bind fun bt180 => (if (t179 != bt180.2) = true then (secateurlaw01_IntsBack.j2 kj10 a0 a1 t178 t179 true) else (secateurlaw01_IntsBack.j2 kj10 a0 a1 t178 t179 (t178 != bt180.1)))) = some r := H
              have A16 := Aside0.mk A160
              clear A160
              replace H := Option.bind_eq_some_iff.mp H
              obtain ⟨⟨t180, t181⟩, A170, H⟩ := H
              replace H : (if (t179 != t181) = true then (secateurlaw01_IntsBack.j2 kj10 a0 a1 t178 t179 true) else (secateurlaw01_IntsBack.j2 kj10 a0 a1 t178 t179 (t178 != t180))) = some r := H
              have A17 := Aside0.mk A170
              clear A170
              have HC18 := Aside0.mk H
              clear H
              go_upto_region 10 with (first | ((with_reducible refine gate_callee (f := 23) rfl ?_); refine goesL_ (some 58) rfl rfl Try.func23 (by kernel_rfl) rfl #[.int .i64 a0, .int .i64 a1] rfl (by (try simp only [List.map_toArray, List.map_cons, List.map_nil]); first | done | rfl | (simp only [List.length_drop, List.length_take]; rfl)) ?_; (with_reducible refine (ints_Mul.calls kj10 a0 a1 t178 t179 _ A16.out).mono ?_); rintro e w19 ⟨rfl, hb⟩; refine ⟨_, rfl, ?_⟩; have n0_ := Aside0.mk (below_step (by repeat (first | (with_reducible first | exact HB.out | apply below_alloc | apply pw_below_drewN | apply below_drew1) | exact HB.out)) hb); clear HB; have HB := n0_; clear n0_; (try clear hb); (try clear hb2); (try clear hk); (try clear hi)) | ((with_reducible refine gate_callee (f := 23) rfl ?_); refine goesL_ (some 64) rfl rfl Try.func23 (by kernel_rfl) rfl #[.int .i64 a1, .int .i64 a0] rfl (by (try simp only [List.map_toArray, List.map_cons, List.map_nil]); first | done | rfl | (simp only [List.length_drop, List.length_take]; rfl)) ?_; (with_reducible refine (ints_Mul.calls kj10 a1 a0 t180 t181 _ A17.out).mono ?_); rintro e w20 ⟨rfl, hb⟩; refine ⟨_, rfl, ?_⟩; have n0_ := Aside0.mk (below_step (by repeat (first | (with_reducible first | exact HB.out | apply below_alloc | apply pw_below_drewN | apply below_drew1) | exact HB.out)) hb); clear HB; have HB := n0_; clear n0_; (try clear hb); (try clear hb2); (try clear hk); (try clear hi)))
              (try simp only [Act.put, List.setIfInBounds_toArray, List.set_cons_zero, List.set_cons_succ])
              go_cut [74] (fun v74 wc => ∃ (kq : Nat) (x74_17 : Bool), v74 = .bool x74_17 ∧ Aside0 (secateurlaw01_IntsBack.j2 kq a0 a1 t178 t179 x74_17 = some r) ∧ Aside0 (kq ≤ kj10) ∧ Aside0 (Below w.heap.size w wc))
              case first =>
                have H := HC18.out
                clear HC18
                by_cases c21 : (t179 != t181) = true
                · rw [if_pos c21] at H
                  have c21b0 : (t179 != t181) = true := c21
                  (try (have c21b1 : decide (t179 = t181) = false := by simpa using c21))
                  (try (have c21b2 : (t179 == t181) = false := by simpa using c21))
                  (try (have c21b3 : ¬ (t179 = t181) := by simpa using c21))
                  clear c21
                  (first | rw [c21b0] | (simp only [i64_w, i32_w]; rw [c21b0]) | skip)
                  have H' := Aside0.mk H
                  clear H
                  go_wp2
                  go_meet
                  case rel => exact ⟨_, (true), (by first | rfl | (simp; done) | (simp [*]; done)), H', ⟨by have := HJ4.out; have := HJ10.out; first | omega | exact Nat.le_refl _⟩, ⟨by repeat (first | (with_reducible first | exact HB.out | apply below_alloc | apply pw_below_drewN | apply below_drew1) | exact HB.out)⟩⟩
                · rw [if_neg c21] at H
                  have c21b0 : (t179 != t181) = false := by simpa using c21
                  (try (have c21b1 : decide (t179 = t181) = true := by simpa using c21))
                  (try (have c21b2 : (t179 == t181) = true := by simpa using c21))
                  clear c21
                  (first | rw [c21b0] | (simp only [i64_w, i32_w]; rw [c21b0]) | skip)
                  have H' := Aside0.mk H
                  clear H
                  go_wp2
                  go_meet
                  case rel => exact ⟨_, ((t178 != t180)), (by first | rfl | (simp; done) | (simp [*]; done)), H', ⟨by have := HJ4.out; have := HJ10.out; first | omega | exact Nat.le_refl _⟩, ⟨by repeat (first | (with_reducible first | exact HB.out | apply below_alloc | apply pw_below_drewN | apply below_drew1) | exact HB.out)⟩⟩
              case rest =>
                clear HC18
                try clear c1
                try clear c2
                try clear p2
                try clear c8
                try clear c8b0
                try clear c8b1
                try clear c8b2
                try clear c9
                try clear c11
                try clear c13
                try clear c14
                try clear c15
                try clear c21
                try clear c21b0
                try clear c21b1
                try clear c21b2
                try clear p2
                obtain ⟨kq, x74_17, rfl, HA, HJ17, HB⟩ := hcut
                cases kq with
                | zero => exact absurd HA.out (by simp [secateurlaw01_IntsBack.j2])
                | succ kj17 =>
                  have H := HA.out
                  clear HA
                  simp only [secateurlaw01_IntsBack.j2] at H
                  by_cases c22 : x74_17 = true
                  · subst c22
                    have H1 : (some false) = some r := by rw [if_pos rfl] at H; exact H
                    clear H
                    have H := H1
                    clear H1
                    obtain rfl := Option.some.inj H
                    go_wp2
                    go_ret
                    exact ⟨by first | rfl | (simp [errW_none, errW_some] <;> rfl) | (simp [*, errW_none, errW_some] <;> rfl), by repeat (first | (with_reducible first | exact HB.out | apply below_alloc | apply pw_below_drewN | apply below_drew1) | exact HB.out)⟩
                  · replace c22 := Bool.eq_false_iff.mpr c22
                    subst c22
                    have H1 : (if t179 = true then (secateurlaw01_IntsBack.j3 kj17 a0 a1 t178 (a1 != 0)) else (secateurlaw01_IntsBack.j3 kj17 a0 a1 t178 false)) = some r := by rw [if_neg (show ¬ (false = true) by decide)] at H; exact H
                    clear H
                    have H := H1
                    clear H1
                    have HC23 := Aside0.mk H
                    clear H
                    go_upto_region 12 with (fail)
                    go_cut [79] (fun v79 wc => ∃ (kq : Nat) (x79_22 : Bool), v79 = .bool x79_22 ∧ Aside0 (secateurlaw01_IntsBack.j3 kq a0 a1 t178 x79_22 = some r) ∧ Aside0 (kq ≤ kj17) ∧ Aside0 (Below w.heap.size w wc))
                    case first =>
                      have H := HC23.out
                      clear HC23
                      by_cases c24 : t179 = true
                      · subst c24
                        have H1 : (secateurlaw01_IntsBack.j3 kj17 a0 a1 t178 (a1 != 0)) = some r := by rw [if_pos rfl] at H; exact H
                        clear H
                        have H := H1
                        clear H1
                        have H' := Aside0.mk H
                        clear H
                        go_wp2
                        go_meet
                        case rel => exact ⟨_, ((a1 != 0)), (by first | rfl | (simp; done) | (simp [*]; done)), H', ⟨by have := HJ4.out; have := HJ10.out; have := HJ17.out; first | omega | exact Nat.le_refl _⟩, ⟨by repeat (first | (with_reducible first | exact HB.out | apply below_alloc | apply pw_below_drewN | apply below_drew1) | exact HB.out)⟩⟩
                      · replace c24 := Bool.eq_false_iff.mpr c24
                        subst c24
                        have H1 : (secateurlaw01_IntsBack.j3 kj17 a0 a1 t178 false) = some r := by rw [if_neg (show ¬ (false = true) by decide)] at H; exact H
                        clear H
                        have H := H1
                        clear H1
                        have H' := Aside0.mk H
                        clear H
                        go_wp2
                        go_meet
                        case rel => exact ⟨_, (false), (by first | rfl | (simp; done) | (simp [*]; done)), H', ⟨by have := HJ4.out; have := HJ10.out; have := HJ17.out; first | omega | exact Nat.le_refl _⟩, ⟨by repeat (first | (with_reducible first | exact HB.out | apply below_alloc | apply pw_below_drewN | apply below_drew1) | exact HB.out)⟩⟩
                    case rest =>
                      clear HC23
                      try clear c1
                      try clear c2
                      try clear p2
                      try clear c8
                      try clear c8b0
                      try clear c8b1
                      try clear c8b2
                      try clear c9
                      try clear c11
                      try clear c13
                      try clear c14
                      try clear c15
                      try clear c21
                      try clear c21b0
                      try clear c21b1
                      try clear c21b2
                      try clear c22
                      try clear c23
                      try clear c24
                      try clear p2
                      obtain ⟨kq, x79_22, rfl, HA, HJ22, HB⟩ := hcut
                      cases kq with
                      | zero => exact absurd HA.out (by simp [secateurlaw01_IntsBack.j3])
                      | succ kj22 =>
                        have H := HA.out
                        clear HA
                        simp only [secateurlaw01_IntsBack.j3] at H
                        by_cases c25 : x79_22 = true
                        · subst c25
                          have H1 : ((ints_Floor.f kj22 t178 a1).bind fun bt182 => ((ints_Ceil.f kj22 t178 a1).bind fun bt184 => (if bt182.2 = 0 then (if bt184.2 = 0 then (if bt182.1 = a0 then (if bt184.1 = a0 then ((secateurlaw01_fixed.f kj22).bind fun t186 => (some t186)) else (some false)) else (some false)) else (some false)) else (some false)))) = some r := by rw [if_pos rfl] at H; exact H
                          clear H
                          have H := H1
                          clear H1
                          replace H := Option.bind_eq_some_iff.mp H
                          obtain ⟨⟨t182, t183⟩, A260, H⟩ := H
                          replace H : ((ints_Ceil.f kj22 t178 a1).bind fun bt184 => (if t183 = 0 then (if bt184.2 = 0 then (if t182 = a0 then (if bt184.1 = a0 then ((secateurlaw01_fixed.f kj22).bind fun t186 => (some t186)) else (some false)) else (some false)) else (some false)) else (some false))) = some r := H
                          have A26 := Aside0.mk A260
                          clear A260
                          replace H := Option.bind_eq_some_iff.mp H
                          obtain ⟨⟨t184, t185⟩, A270, H⟩ := H
                          replace H : (if t183 = 0 then (if t185 = 0 then (if t182 = a0 then (if t184 = a0 then ((secateurlaw01_fixed.f kj22).bind fun t186 => (some t186)) else (some false)) else (some false)) else (some false)) else (some false)) = some r := H
                          have A27 := Aside0.mk A270
                          clear A270
                          by_cases c28 : t183 = 0
                          · rw [if_pos c28] at H
                            have c28b0 : (t183 == 0) = true := beq_iff_eq.mpr c28
                            have c28b1 : (t183 != 0) = false := bne_eq_false_iff_eq.mpr c28
                            clear c28
                            by_cases c29 : t185 = 0
                            · rw [if_pos c29] at H
                              have c29b0 : (t185 == 0) = true := beq_iff_eq.mpr c29
                              have c29b1 : (t185 != 0) = false := bne_eq_false_iff_eq.mpr c29
                              clear c29
                              by_cases c30 : t182 = a0
                              · rw [if_pos c30] at H
                                have c30b0 : (t182 == a0) = true := beq_iff_eq.mpr c30
                                have c30b1 : (t182 != a0) = false := bne_eq_false_iff_eq.mpr c30
                                clear c30
                                by_cases c31 : t184 = a0
                                · rw [if_pos c31] at H
                                  have c31b0 : (t184 == a0) = true := beq_iff_eq.mpr c31
                                  have c31b1 : (t184 != a0) = false := bne_eq_false_iff_eq.mpr c31
                                  clear c31
                                  replace H := Option.bind_eq_some_iff.mp H
                                  obtain ⟨t186, A320, H⟩ := H
                                  replace H : (some t186) = some r := H
                                  have A32 := Aside0.mk A320
                                  clear A320
                                  obtain rfl := Option.some.inj H
                                  go_wp2_with (first | ((with_reducible refine gate_callee (f := 16) rfl ?_); refine goesL_ (some 83) rfl rfl Try.func16 (by kernel_rfl) rfl #[.int .i64 t178, .int .i64 a1] rfl (by (try simp only [List.map_toArray, List.map_cons, List.map_nil]); first | done | rfl | (simp only [List.length_drop, List.length_take]; rfl)) ?_; (with_reducible refine (ints_Floor.calls kj22 t178 a1 t182 t183 _ A26.out).mono ?_); rintro e w33 ⟨rfl, hb⟩; refine ⟨_, rfl, ?_⟩; have n0_ := Aside0.mk (below_step (by repeat (first | (with_reducible first | exact HB.out | apply below_alloc | apply pw_below_drewN | apply below_drew1) | exact HB.out)) hb); clear HB; have HB := n0_; clear n0_; (try clear hb); (try clear hb2); (try clear hk); (try clear hi)) | ((with_reducible refine gate_callee (f := 18) rfl ?_); refine goesL_ (some 89) rfl rfl Try.func18 (by kernel_rfl) rfl #[.int .i64 t178, .int .i64 a1] rfl (by (try simp only [List.map_toArray, List.map_cons, List.map_nil]); first | done | rfl | (simp only [List.length_drop, List.length_take]; rfl)) ?_; (with_reducible refine (ints_Ceil.calls kj22 t178 a1 t184 t185 _ A27.out).mono ?_); rintro e w34 ⟨rfl, hb⟩; refine ⟨_, rfl, ?_⟩; have n0_ := Aside0.mk (below_step (by repeat (first | (with_reducible first | exact HB.out | apply below_alloc | apply pw_below_drewN | apply below_drew1) | exact HB.out)) hb); clear HB; have HB := n0_; clear n0_; (try clear hb); (try clear hb2); (try clear hk); (try clear hi)) | (go_at_call 15; (with_reducible refine (secateurlaw01_fixed.calls kj22  t186 _ A32.out).mono ?_); rintro e w35 ⟨rfl, hb⟩; have n0_ := Aside0.mk (below_step (by repeat (first | (with_reducible first | exact HB.out | apply below_alloc | apply pw_below_drewN | apply below_drew1) | exact HB.out)) hb); clear HB; have HB := n0_; clear n0_; (try clear hb); (try clear hb2); (try clear hk); (try clear hi)))
                                  go_ret
                                  exact ⟨by first | rfl | (simp [errW_none, errW_some] <;> rfl) | (simp [*, errW_none, errW_some] <;> rfl), by repeat (first | (with_reducible first | exact HB.out | apply below_alloc | apply pw_below_drewN | apply below_drew1) | exact HB.out)⟩
                                · rw [if_neg c31] at H
                                  have c31b0 : (t184 == a0) = false := beq_eq_false_iff_ne.mpr c31
                                  have c31b1 : (t184 != a0) = true := bne_iff_ne.mpr c31
                                  obtain rfl := Option.some.inj H
                                  go_wp2_with (first | ((with_reducible refine gate_callee (f := 16) rfl ?_); refine goesL_ (some 83) rfl rfl Try.func16 (by kernel_rfl) rfl #[.int .i64 t178, .int .i64 a1] rfl (by (try simp only [List.map_toArray, List.map_cons, List.map_nil]); first | done | rfl | (simp only [List.length_drop, List.length_take]; rfl)) ?_; (with_reducible refine (ints_Floor.calls kj22 t178 a1 t182 t183 _ A26.out).mono ?_); rintro e w36 ⟨rfl, hb⟩; refine ⟨_, rfl, ?_⟩; have n0_ := Aside0.mk (below_step (by repeat (first | (with_reducible first | exact HB.out | apply below_alloc | apply pw_below_drewN | apply below_drew1) | exact HB.out)) hb); clear HB; have HB := n0_; clear n0_; (try clear hb); (try clear hb2); (try clear hk); (try clear hi)) | ((with_reducible refine gate_callee (f := 18) rfl ?_); refine goesL_ (some 89) rfl rfl Try.func18 (by kernel_rfl) rfl #[.int .i64 t178, .int .i64 a1] rfl (by (try simp only [List.map_toArray, List.map_cons, List.map_nil]); first | done | rfl | (simp only [List.length_drop, List.length_take]; rfl)) ?_; (with_reducible refine (ints_Ceil.calls kj22 t178 a1 t184 t185 _ A27.out).mono ?_); rintro e w37 ⟨rfl, hb⟩; refine ⟨_, rfl, ?_⟩; have n0_ := Aside0.mk (below_step (by repeat (first | (with_reducible first | exact HB.out | apply below_alloc | apply pw_below_drewN | apply below_drew1) | exact HB.out)) hb); clear HB; have HB := n0_; clear n0_; (try clear hb); (try clear hb2); (try clear hk); (try clear hi)))
                                  go_ret
                                  exact ⟨by first | rfl | (simp [errW_none, errW_some] <;> rfl) | (simp [*, errW_none, errW_some] <;> rfl), by repeat (first | (with_reducible first | exact HB.out | apply below_alloc | apply pw_below_drewN | apply below_drew1) | exact HB.out)⟩
                              · rw [if_neg c30] at H
                                have c30b0 : (t182 == a0) = false := beq_eq_false_iff_ne.mpr c30
                                have c30b1 : (t182 != a0) = true := bne_iff_ne.mpr c30
                                obtain rfl := Option.some.inj H
                                go_wp2_with (first | ((with_reducible refine gate_callee (f := 16) rfl ?_); refine goesL_ (some 83) rfl rfl Try.func16 (by kernel_rfl) rfl #[.int .i64 t178, .int .i64 a1] rfl (by (try simp only [List.map_toArray, List.map_cons, List.map_nil]); first | done | rfl | (simp only [List.length_drop, List.length_take]; rfl)) ?_; (with_reducible refine (ints_Floor.calls kj22 t178 a1 t182 t183 _ A26.out).mono ?_); rintro e w38 ⟨rfl, hb⟩; refine ⟨_, rfl, ?_⟩; have n0_ := Aside0.mk (below_step (by repeat (first | (with_reducible first | exact HB.out | apply below_alloc | apply pw_below_drewN | apply below_drew1) | exact HB.out)) hb); clear HB; have HB := n0_; clear n0_; (try clear hb); (try clear hb2); (try clear hk); (try clear hi)) | ((with_reducible refine gate_callee (f := 18) rfl ?_); refine goesL_ (some 89) rfl rfl Try.func18 (by kernel_rfl) rfl #[.int .i64 t178, .int .i64 a1] rfl (by (try simp only [List.map_toArray, List.map_cons, List.map_nil]); first | done | rfl | (simp only [List.length_drop, List.length_take]; rfl)) ?_; (with_reducible refine (ints_Ceil.calls kj22 t178 a1 t184 t185 _ A27.out).mono ?_); rintro e w39 ⟨rfl, hb⟩; refine ⟨_, rfl, ?_⟩; have n0_ := Aside0.mk (below_step (by repeat (first | (with_reducible first | exact HB.out | apply below_alloc | apply pw_below_drewN | apply below_drew1) | exact HB.out)) hb); clear HB; have HB := n0_; clear n0_; (try clear hb); (try clear hb2); (try clear hk); (try clear hi)))
                                go_ret
                                exact ⟨by first | rfl | (simp [errW_none, errW_some] <;> rfl) | (simp [*, errW_none, errW_some] <;> rfl), by repeat (first | (with_reducible first | exact HB.out | apply below_alloc | apply pw_below_drewN | apply below_drew1) | exact HB.out)⟩
                            · rw [if_neg c29] at H
                              have c29b0 : (t185 == 0) = false := beq_eq_false_iff_ne.mpr c29
                              have c29b1 : (t185 != 0) = true := bne_iff_ne.mpr c29
                              obtain rfl := Option.some.inj H
                              go_wp2_with (first | ((with_reducible refine gate_callee (f := 16) rfl ?_); refine goesL_ (some 83) rfl rfl Try.func16 (by kernel_rfl) rfl #[.int .i64 t178, .int .i64 a1] rfl (by (try simp only [List.map_toArray, List.map_cons, List.map_nil]); first | done | rfl | (simp only [List.length_drop, List.length_take]; rfl)) ?_; (with_reducible refine (ints_Floor.calls kj22 t178 a1 t182 t183 _ A26.out).mono ?_); rintro e w40 ⟨rfl, hb⟩; refine ⟨_, rfl, ?_⟩; have n0_ := Aside0.mk (below_step (by repeat (first | (with_reducible first | exact HB.out | apply below_alloc | apply pw_below_drewN | apply below_drew1) | exact HB.out)) hb); clear HB; have HB := n0_; clear n0_; (try clear hb); (try clear hb2); (try clear hk); (try clear hi)) | ((with_reducible refine gate_callee (f := 18) rfl ?_); refine goesL_ (some 89) rfl rfl Try.func18 (by kernel_rfl) rfl #[.int .i64 t178, .int .i64 a1] rfl (by (try simp only [List.map_toArray, List.map_cons, List.map_nil]); first | done | rfl | (simp only [List.length_drop, List.length_take]; rfl)) ?_; (with_reducible refine (ints_Ceil.calls kj22 t178 a1 t184 t185 _ A27.out).mono ?_); rintro e w41 ⟨rfl, hb⟩; refine ⟨_, rfl, ?_⟩; have n0_ := Aside0.mk (below_step (by repeat (first | (with_reducible first | exact HB.out | apply below_alloc | apply pw_below_drewN | apply below_drew1) | exact HB.out)) hb); clear HB; have HB := n0_; clear n0_; (try clear hb); (try clear hb2); (try clear hk); (try clear hi)))
                              go_ret
                              exact ⟨by first | rfl | (simp [errW_none, errW_some] <;> rfl) | (simp [*, errW_none, errW_some] <;> rfl), by repeat (first | (with_reducible first | exact HB.out | apply below_alloc | apply pw_below_drewN | apply below_drew1) | exact HB.out)⟩
                          · rw [if_neg c28] at H
                            have c28b0 : (t183 == 0) = false := beq_eq_false_iff_ne.mpr c28
                            have c28b1 : (t183 != 0) = true := bne_iff_ne.mpr c28
                            obtain rfl := Option.some.inj H
                            go_wp2_with (first | ((with_reducible refine gate_callee (f := 16) rfl ?_); refine goesL_ (some 83) rfl rfl Try.func16 (by kernel_rfl) rfl #[.int .i64 t178, .int .i64 a1] rfl (by (try simp only [List.map_toArray, List.map_cons, List.map_nil]); first | done | rfl | (simp only [List.length_drop, List.length_take]; rfl)) ?_; (with_reducible refine (ints_Floor.calls kj22 t178 a1 t182 t183 _ A26.out).mono ?_); rintro e w42 ⟨rfl, hb⟩; refine ⟨_, rfl, ?_⟩; have n0_ := Aside0.mk (below_step (by repeat (first | (with_reducible first | exact HB.out | apply below_alloc | apply pw_below_drewN | apply below_drew1) | exact HB.out)) hb); clear HB; have HB := n0_; clear n0_; (try clear hb); (try clear hb2); (try clear hk); (try clear hi)) | ((with_reducible refine gate_callee (f := 18) rfl ?_); refine goesL_ (some 89) rfl rfl Try.func18 (by kernel_rfl) rfl #[.int .i64 t178, .int .i64 a1] rfl (by (try simp only [List.map_toArray, List.map_cons, List.map_nil]); first | done | rfl | (simp only [List.length_drop, List.length_take]; rfl)) ?_; (with_reducible refine (ints_Ceil.calls kj22 t178 a1 t184 t185 _ A27.out).mono ?_); rintro e w43 ⟨rfl, hb⟩; refine ⟨_, rfl, ?_⟩; have n0_ := Aside0.mk (below_step (by repeat (first | (with_reducible first | exact HB.out | apply below_alloc | apply pw_below_drewN | apply below_drew1) | exact HB.out)) hb); clear HB; have HB := n0_; clear n0_; (try clear hb); (try clear hb2); (try clear hk); (try clear hi)))
                            go_ret
                            exact ⟨by first | rfl | (simp [errW_none, errW_some] <;> rfl) | (simp [*, errW_none, errW_some] <;> rfl), by repeat (first | (with_reducible first | exact HB.out | apply below_alloc | apply pw_below_drewN | apply below_drew1) | exact HB.out)⟩
                        · replace c25 := Bool.eq_false_iff.mpr c25
                          subst c25
                          have H1 : ((secateurlaw01_fixed.f kj22).bind fun t187 => (some t187)) = some r := by rw [if_neg (show ¬ (false = true) by decide)] at H; exact H
                          clear H
                          have H := H1
                          clear H1
                          replace H := Option.bind_eq_some_iff.mp H
                          obtain ⟨t187, A440, H⟩ := H
                          replace H : (some t187) = some r := H
                          have A44 := Aside0.mk A440
                          clear A440
                          obtain rfl := Option.some.inj H
                          go_wp2_with (first | ((with_reducible refine gate_callee (f := 15) rfl ?_); refine goesL_ (some 111) rfl rfl Try.func15 (by kernel_rfl) rfl #[] rfl (by (try simp only [List.map_toArray, List.map_cons, List.map_nil]); first | done | rfl | (simp only [List.length_drop, List.length_take]; rfl)) ?_; (with_reducible refine (secateurlaw01_fixed.calls kj22  t187 _ A44.out).mono ?_); rintro e w45 ⟨rfl, hb⟩; refine ⟨_, rfl, ?_⟩; have n0_ := Aside0.mk (below_step (by repeat (first | (with_reducible first | exact HB.out | apply below_alloc | apply pw_below_drewN | apply below_drew1) | exact HB.out)) hb); clear HB; have HB := n0_; clear n0_; (try clear hb); (try clear hb2); (try clear hk); (try clear hi)))
                          go_ret
                          exact ⟨by first | rfl | (simp [errW_none, errW_some] <;> rfl) | (simp [*, errW_none, errW_some] <;> rfl), by repeat (first | (with_reducible first | exact HB.out | apply below_alloc | apply pw_below_drewN | apply below_drew1) | exact HB.out)⟩

/-- THE ONE PURE STATEMENT of secateurlaw01_IntsBack: yours. -/
def secateurlaw01_IntsBack.Pure : Prop := ∀ (a0 : Int) (a1 : Int), (Lit.int .i64 a0).wf = true → (Lit.int .i64 a1).wf = true → ∃ k, secateurlaw01_IntsBack.f k a0 a1 = some true
theorem secateurlaw01_IntsBack.walk (P : secateurlaw01_IntsBack.Pure) (a0 : Int) (a1 : Int) (w : World) (w0 : (Lit.int .i64 a0).wf = true) (w1 : (Lit.int .i64 a1).wf = true) :
    Calls Try.prog 11 #[.int .i64 a0, .int .i64 a1] w fun e w' => e = .returned (.bool true) ∧ Below w.heap.size w w' := by
  obtain ⟨k, h⟩ := P a0 a1 w0 w1
  refine (secateurlaw01_IntsBack.calls k a0 a1 true w h).mono ?_
  rintro e w' ⟨rfl, hd⟩
  exact ⟨rfl, hd⟩

end Go.Proofs.Ytjdmgnghdkmopaa.PIntsBack
