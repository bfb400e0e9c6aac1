/- The calls whose answers the document fixes come out as it says, in whatever memory. No conditions. -/
import Derived.Test.YtommjjjlljmpbaaTot
import Derived.Deep.RegionWith
set_option linter.unusedVariables false
set_option linter.unusedSimpArgs false
namespace Go.Proofs.Ytommjjjlljmpbaa.PSteps
open Go.RowKit Go.Proofs.YtommjjjlljmpbaaW.PrintWords Go.Proofs.YtommjjjlljmpbaaW.PrintLast Go.Proofs.YtommjjjlljmpbaaW.PrintMore
attribute [local go_sem] max2_int min2_int max_two min_two max_three min_three max_four min_four
/-! ### secateurlaw15_fixed: function 11 -/
def secateurlaw15_fixed.f (k : Nat) : Option (Bool) := if 400 ≤ k then some true else none
theorem secateurlaw15_fixed.mono : ∀ k, LeO (secateurlaw15_fixed.f k) (secateurlaw15_fixed.f (k + 1)) := by
  intro k
  unfold secateurlaw15_fixed.f
  by_cases h : 400 ≤ k
  · rw [if_pos h, if_pos (c := 400 ≤ k + 1) (by omega)]
    exact LeO.refl _
  · rw [if_neg h]
    exact LeO.none _
theorem lit_C (W : World) (xs : List Int) (hl : xs.length ≤ 1000) : Kd.C (Kd.int .i64) (W.alloc (.cells (nums .i64 xs).toArray 3)) (some ⟨W.heap.size, 0, none⟩) xs.length xs :=
  Kd.C_of_reads (d := (0 : Int)) (h1 := fun _ => rfl) (own_reads' (own_lit W 0 3 .i64 xs (Nat.zero_le _) (by omega)))
/-- A result that is kept: what it holds. -/
def Has (W : World) (A : Option Addr) (c n : Nat) (xs : List Int) : Prop := xs.length = n ∧ n ≤ c ∧ Kd.C (Kd.int .i64) W A n xs
theorem Has.below {W W' : World} {A : Option Addr} {c n : Nat} {xs : List Int} (h : Has W A c n xs) (hb : Below W.heap.size W W') : Has W' A c n xs := ⟨h.1, h.2.1, Kd.C_below h.2.2 hb⟩
theorem Has.of_R {W : World} {base : Nat} {v : Value} {xs : List Int} (h : Kd.R (Kd.int .i64) 3 W base (fun _ => True) v xs) : ∃ A c, v = .slice A xs.length c ∧ Has W A c xs.length xs := by
  obtain ⟨A, c, e, hl, hC⟩ := Kd.R_reads h
  exact ⟨A, c, e, rfl, hl, hC⟩
/-- Back of a step at a literal list. -/
theorem back_lit (s : S23) (xs : List Int) (hl : xs.length ≤ 1000) (W : World) (r : List Int) (x : Int) (h : backS s xs = (r, x)) :
    Calls Try.prog 12 #[.agg #[.int .i64 s.f0, .int .i64 s.f1, .int .i64 s.f2, .int .i64 s.f3, .int .i64 s.f4], .slice (some ⟨W.heap.size, 0, none⟩) xs.length xs.length] (W.alloc (.cells (nums .i64 xs).toArray 3)) fun e w' =>
      ∃ A c, e = .returned (.tuple #[.slice A r.length c, .int .i64 x]) ∧ Has w' A c r.length r ∧ Below W.heap.size W w' := by
  refine (steps_Back.calls 100 s.f0 s.f1 s.f2 s.f3 s.f4 _ _ xs r x _ (lit_C W xs hl) (Nat.le_refl _) (by rw [back_total 100 (by omega) s xs (by omega), h])).mono ?_
  rintro e w' ⟨v, rfl, hR, hb⟩
  obtain ⟨A, c, rfl, hh⟩ := Has.of_R hR
  exact ⟨A, c, rfl, hh, ((Below.refl _ W).alloc (Nat.le_refl _) _).trans (hb.mono (by simp))⟩
theorem without_lit (s : S23) (xs : List Int) (hl : xs.length ≤ 60) (W : World) (r : List Int) (x : Bool) (h : withoutS s xs = (r, x)) :
    Calls Try.prog 15 #[.agg #[.int .i64 s.f0, .int .i64 s.f1, .int .i64 s.f2, .int .i64 s.f3, .int .i64 s.f4], .slice (some ⟨W.heap.size, 0, none⟩) xs.length xs.length] (W.alloc (.cells (nums .i64 xs).toArray 3)) fun e w' =>
      ∃ A c, e = .returned (.tuple #[.slice A r.length c, .bool x]) ∧ Has w' A c r.length r ∧ Below W.heap.size W w' := by
  refine (steps_Without.calls 100 s.f0 s.f1 s.f2 s.f3 s.f4 _ _ xs r x _ (lit_C W xs (by omega)) (Nat.le_refl _) (by rw [without_total 100 s xs (by omega) (by omega), h])).mono ?_
  rintro e w' ⟨v, rfl, hR, hb⟩
  obtain ⟨A, c, rfl, hh⟩ := Has.of_R hR
  exact ⟨A, c, rfl, hh, ((Below.refl _ W).alloc (Nat.le_refl _) _).trans (hb.mono (by simp))⟩
/-- A list that is held against a literal one, and is it. -/
theorem nums_lit (A : Option Addr) (c n : Nat) (xs : List Int) (W : World) (hl : xs.length ≤ 60) (h : Has W A c n xs) :
    Calls Try.prog 13 #[.slice A n c, .slice (some ⟨W.heap.size, 0, none⟩) xs.length xs.length] (W.alloc (.cells (nums .i64 xs).toArray 3)) fun e w' => e = .returned (.bool true) ∧ Below W.heap.size W w' := by
  obtain ⟨rfl, hc, hC⟩ := h
  refine (secateurref02_Nums.calls 100 A c xs _ _ xs true _ (Kd.C_below hC ((Below.refl _ W).alloc (Nat.le_refl _) _)) hc (lit_C W xs (by omega)) (Nat.le_refl _) (by rw [nums_eq 100 xs xs (by omega) (by omega)]; simp)).mono ?_
  rintro e w' ⟨rfl, hd⟩
  exact ⟨rfl, ((Below.refl _ W).alloc (Nat.le_refl _) _).trans (Below.mono (by first | exact hd.below | exact hd) (by simp))⟩
theorem steps_C (W : World) : Kd.C k23 (W.alloc (.cells #[.int .i64 0, .int .i64 0, .int .i64 0, .int .i64 0, .int .i64 5, .int .i64 0, .int .i64 0, .int .i64 0, .int .i64 0, .int .i64 6] 23)) (some ⟨W.heap.size, 0, none⟩) ([⟨0, 0, 0, 0, 5⟩, ⟨0, 0, 0, 0, 6⟩] : List S23).length [⟨0, 0, 0, 0, 5⟩, ⟨0, 0, 0, 0, 6⟩] := by
  refine ⟨rfl, by simp, fun _ => ⟨_, rfl, fun j p hj => ?_⟩⟩
  have hb := heap_alloc_new W (.cells #[.int .i64 0, .int .i64 0, .int .i64 0, .int .i64 0, .int .i64 5, .int .i64 0, .int .i64 0, .int .i64 0, .int .i64 0, .int .i64 6] 23)
  refine ⟨[.int .i64 p.f0, .int .i64 p.f1, .int .i64 p.f2, .int .i64 p.f3, .int .i64 p.f4], rfl, k23_mk _ p, fun i u hu => ?_⟩
  rw [SLib.add_lit, SLib.cell_at hb]
  have hs : k23.sz = 5 := rfl
  rw [hs]
  match j, hj with
  | 0, hj =>
    simp only [List.getElem?_cons_zero, Option.some.injEq] at hj
    subst hj
    match i, hu with
    | 0, hu => simpa using hu
    | 1, hu => simpa using hu
    | 2, hu => simpa using hu
    | 3, hu => simpa using hu
    | 4, hu => simpa using hu
    | i + 5, hu => simp at hu
  | 1, hj =>
    simp only [List.getElem?_cons_succ, List.getElem?_cons_zero, Option.some.injEq] at hj
    subst hj
    match i, hu with
    | 0, hu => simpa using hu
    | 1, hu => simpa using hu
    | 2, hu => simpa using hu
    | 3, hu => simpa using hu
    | 4, hu => simpa using hu
    | i + 5, hu => simp at hu
  | j + 2, hj => simp at hj
theorem nil_C (W : World) : Kd.C (Kd.int .i64) W none ([] : List Int).length [] := ⟨rfl, by simp, fun h => absurd h (Nat.lt_irrefl 0)⟩
set_option maxHeartbeats 4000000 in
set_option maxRecDepth 100000 in
theorem fixed_walk (w : World) : Calls Try.prog 11 #[] w fun e w' => e = .returned (.bool true) ∧ Below w.heap.size w w' := by
  have B0 := Aside0.mk (Below.refl w.heap.size w)
  go_enter Try.func11, Try.ntmps11
  go_wp2_with fail
  refine (back_lit ⟨0, 1, 0, 0, 7⟩ [1, 2] (by decide) w [1, 7, 2] 0 (by decide +kernel)).mono ?_
  rintro e w1 ⟨Aa, ca, rfl, ha1, hb⟩
  have HA1 := Aside0.mk ha1
  have B1 := Aside0.mk (B0.out.trans hb)
  clear ha1 hb B0
  go_wp2_with fail
  refine (back_lit ⟨1, 0, 1, 2, 1⟩ [3, 4] (by decide) w1 [9, 3, 4] 0 (by decide +kernel)).mono ?_
  rintro e w2 ⟨Ab, cb, rfl, hb2, hb⟩
  have HB2 := Aside0.mk hb2
  have HA2 := Aside0.mk (HA1.out.below hb)
  have B2 := Aside0.mk (B1.out.trans (hb.mono B1.out.size))
  clear hb2 hb HA1 B1
  go_wp2_with fail
  refine (back_lit ⟨0, 3, 0, 0, 0⟩ [1, 2] (by decide) w2 [] 150 (by decide +kernel)).mono ?_
  rintro e w3 ⟨Ac, cc, rfl, _, hb⟩
  have HB3 := Aside0.mk (HB2.out.below hb)
  have HA3 := Aside0.mk (HA2.out.below hb)
  have B3 := Aside0.mk (B2.out.trans (hb.mono B2.out.size))
  clear hb HA2 HB2 B2
  go_wp2_with fail
  refine (back_lit ⟨1, 0, 0, 4611686018427387904, 0⟩ [2] (by decide) w3 [] 10 (by decide +kernel)).mono ?_
  rintro e w4 ⟨Ad, cd, rfl, _, hb⟩
  have HB4 := Aside0.mk (HB3.out.below hb)
  have HA4 := Aside0.mk (HA3.out.below hb)
  have B4 := Aside0.mk (B3.out.trans (hb.mono B3.out.size))
  clear hb HA3 HB3 B3
  go_wp2_with fail
  refine (steps_Replay.calls 100 _ 2 [⟨0, 0, 0, 0, 5⟩, ⟨0, 0, 0, 0, 6⟩] none 0 [] [5, 6] 0 _ (steps_C w4) (by decide) (nil_C _) (Nat.le_refl _) (by rw [replay_total 100 (by omega) _ _ (by decide)]; exact congrArg some (by decide +kernel))).mono ?_
  rintro e w5 ⟨v5, rfl, hR, hb⟩
  obtain ⟨Ae, ce, rfl, hh⟩ := Has.of_R hR
  have HE5 := Aside0.mk hh
  have hb := ((Below.refl _ w4).alloc (Nat.le_refl _) (.cells #[.int .i64 0, .int .i64 0, .int .i64 0, .int .i64 0, .int .i64 5, .int .i64 0, .int .i64 0, .int .i64 0, .int .i64 0, .int .i64 6] 23)).trans (hb.mono (by simp))
  have HB5 := Aside0.mk (HB4.out.below hb)
  have HA5 := Aside0.mk (HA4.out.below hb)
  have B5 := Aside0.mk (B4.out.trans (hb.mono B4.out.size))
  clear hb HA4 HB4 B4 hh hR
  go_wp2_with fail
  refine (without_lit ⟨0, 0, 0, 0, 5⟩ [5, 6] (by decide) w5 [6] true (by decide +kernel)).mono ?_
  rintro e w6 ⟨Af, cf, rfl, hf6, hb⟩
  have HF6 := Aside0.mk hf6
  have HE6 := Aside0.mk (HE5.out.below hb)
  have HB6 := Aside0.mk (HB5.out.below hb)
  have HA6 := Aside0.mk (HA5.out.below hb)
  have B6 := Aside0.mk (B5.out.trans (hb.mono B5.out.size))
  clear hb HA5 HB5 HE5 B5 hf6
  go_wp2_with fail
  refine (without_lit ⟨0, 0, 0, 0, 5⟩ [4, 6] (by decide) w6 [] false (by decide +kernel)).mono ?_
  rintro e w7 ⟨Ag, cg, rfl, _, hb⟩
  have HF7 := Aside0.mk (HF6.out.below hb)
  have HE7 := Aside0.mk (HE6.out.below hb)
  have HB7 := Aside0.mk (HB6.out.below hb)
  have HA7 := Aside0.mk (HA6.out.below hb)
  have B7 := Aside0.mk (B6.out.trans (hb.mono B6.out.size))
  clear hb HA6 HB6 HE6 HF6 B6
  go_wp2_with fail
  refine (nums_lit Aa ca _ [1, 7, 2] w7 (by decide) HA7.out).mono ?_
  rintro e w8 ⟨rfl, hb⟩
  have HF8 := Aside0.mk (HF7.out.below hb)
  have HE8 := Aside0.mk (HE7.out.below hb)
  have HB8 := Aside0.mk (HB7.out.below hb)
  have B8 := Aside0.mk (B7.out.trans (hb.mono B7.out.size))
  clear hb HA7 HB7 HE7 HF7 B7
  go_wp2_with fail
  refine (nums_lit Ab cb _ [9, 3, 4] w8 (by decide) HB8.out).mono ?_
  rintro e w9 ⟨rfl, hb⟩
  have HF9 := Aside0.mk (HF8.out.below hb)
  have HE9 := Aside0.mk (HE8.out.below hb)
  have B9 := Aside0.mk (B8.out.trans (hb.mono B8.out.size))
  clear hb HB8 HE8 HF8 B8
  go_wp2_with fail
  refine (nums_lit Ae ce _ [5, 6] w9 (by decide) HE9.out).mono ?_
  rintro e w10 ⟨rfl, hb⟩
  have HF10 := Aside0.mk (HF9.out.below hb)
  have B10 := Aside0.mk (B9.out.trans (hb.mono B9.out.size))
  clear hb HE9 HF9 B9
  go_wp2_with fail
  refine (nums_lit Af cf _ [6] w10 (by decide) HF10.out).mono ?_
  rintro e w11 ⟨rfl, hb⟩
  have B11 := Aside0.mk (B10.out.trans (hb.mono B10.out.size))
  clear hb HF10 B10
  go_wp2_with fail
  refine (steps_Check.calls 100 0 0 0 1 0 3 150 _ (by rw [check_total 100 (by omega)]; exact congrArg some (by decide +kernel))).mono ?_
  rintro e w12 ⟨rfl, hb⟩
  have B12 := Aside0.mk (B11.out.trans (hb.mono B11.out.size))
  clear hb B11
  go_wp2
  go_ret
  exact ⟨rfl, B12.out⟩
theorem secateurlaw15_fixed.calls (k : Nat) (r : Bool) (w : World) (h : secateurlaw15_fixed.f k = some r) :
    Calls Try.prog 11 #[] w fun e w' => e = .returned (.bool r) ∧ Below w.heap.size w w' := by
  unfold secateurlaw15_fixed.f at h
  by_cases h0 : 400 ≤ k
  · rw [if_pos h0] at h
    obtain rfl := Option.some.inj h
    exact fixed_walk w
  · rw [if_neg h0] at h
    cases h
end Go.Proofs.Ytommjjjlljmpbaa.PSteps
