-- Written by a program of this session (the kit's print, some functions given by hand).
import Derived.Test.YtcjachhdoogbaaaPTx0
import Derived.Test.YtcjachhdoogbaaaPTx1
import Derived.Test.YtcjachhdoogbaaaPTx6
namespace Go.Proofs.Ytcjachhdoogbaaa.PT
open Go.RowKit Go.Proofs.YtcjachhdoogbaaaW.PrintWords Go.Proofs.YtcjachhdoogbaaaW.PrintLast Go.Proofs.YtcjachhdoogbaaaW.PrintMore
attribute [local go_sem] max2_int min2_int max_two min_two max_three min_three max_four min_four   -- for this text's walks alone
set_option linter.unusedVariables false
set_option linter.unusedSimpArgs false

attribute [local go_sem high] eqA62
/-! ### secateurlaw03_doms: function 11 -/
def secateurlaw03_doms.l0 : Nat → List (List Int) → List (List (S62)) → Int → Option ((List (List (S62))))
  | 0, _, _, _ => none
  | k + 1, x0, x3, x4 => if x4 < (x0.length : Int) then (if x4 < 6 then (if 0 ≤ x4 then ((secateurlaw02_Small.f k (rd_L2 x0 x4)).bind fun t183 => (if x3.length < 5864062014805 then (secateurlaw03_doms.l0 k x0 (x3 ++ [t183]) (wrap64 (x4 + 1))) else (none))) else (none)) else (some x3)) else (some x3)
def secateurlaw03_doms.f (k : Nat) (l0 : List (List Int)) : Option ((List (List (S62)))) := secateurlaw03_doms.l0 k l0 (([] : List (List (S62)))) 0
theorem secateurlaw03_doms.mono_l : ∀ k, (∀ y0 y1 y2, LeO (secateurlaw03_doms.l0 k y0 y1 y2) (secateurlaw03_doms.l0 (k + 1) y0 y1 y2))
  | 0 => fun _ _ _ r h => by simp [secateurlaw03_doms.l0] at h
  | k + 1 => by
    have ih0 := secateurlaw03_doms.mono_l k
    · intro y0 y1 y2
      unfold secateurlaw03_doms.l0
      repeat' first
      | (with_reducible exact ih0 _ _ _)
      | (with_reducible exact secateurlaw02_Small.mono _ _)
      | (with_reducible exact LeO.refl _)
      | (with_reducible exact LeO.none _)
      | (with_reducible refine LeO.ite ?_ ?_)
      | (with_reducible refine LeO.bind ?_ (fun _ => ?_))
      | exact ih0 _ _ _
      | exact secateurlaw02_Small.mono _ _
      | exact LeO.none _
      | refine LeO.ite ?_ ?_
      | refine LeO.bind ?_ (fun _ => ?_)
theorem secateurlaw03_doms.mono : ∀ a0 k, LeO (secateurlaw03_doms.f k a0) (secateurlaw03_doms.f (k + 1) a0) := by
  intro a0 k
  have ih0 := secateurlaw03_doms.mono_l k
  unfold secateurlaw03_doms.f
  repeat' first
      | (with_reducible exact ih0 _ _ _)
      | (with_reducible exact secateurlaw02_Small.mono _ _)
      | (with_reducible exact LeO.refl _)
      | (with_reducible exact LeO.none _)
      | (with_reducible refine LeO.ite ?_ ?_)
      | (with_reducible refine LeO.bind ?_ (fun _ => ?_))
      | exact ih0 _ _ _
      | exact secateurlaw02_Small.mono _ _
      | exact LeO.none _
      | refine LeO.ite ?_ ?_
      | refine LeO.bind ?_ (fun _ => ?_)
set_option maxHeartbeats 8000000 in
set_option maxRecDepth 100000 in
theorem secateurlaw03_doms.calls (k : Nat) (A0 : Option Addr) (c0 : Nat) (l0 : List (List Int)) (r : List (List (S62))) (w : World) (hr0 : Kd.C (Kd.slice 3 (Kd.int .i64)) w A0 l0.length l0) (hc0 : l0.length ≤ c0) (h : secateurlaw03_doms.f k l0 = some r) :
    Calls Try.prog 11 #[.slice A0 l0.length c0] w fun e w' => ∃ v0_ : Value, e = .returned (v0_) ∧ Kd.S (Kd.slice 62 k62) 31 w' w.heap.size (fun _ => True) v0_ r ∧ Below w.heap.size w w' := by
  have HR0 := Aside0.mk hr0
  have HC0 := Aside0.mk hc0
  clear hr0 hc0
  have HB := Aside0.mk (Below.refl w.heap.size w)
  have H : (secateurlaw03_doms.l0 k l0 (([] : List (List (S62)))) 0) = some r := h
  clear h
  obtain ⟨y179, hy179⟩ : ∃ y_ : List (List (S62)), y_ = (([] : List (List (S62)))) := ⟨_, rfl⟩
  replace H : (secateurlaw03_doms.l0 k l0 y179 0) = some r := by first | (rw [hy179]; with_reducible exact H) | (have H2_ := (Option.bind_some _ _).symm.trans H; rw [hy179]; with_reducible exact H2_) | (have H2_ := (Option.bind_some _ _).symm.trans H; with_reducible exact H2_) | with_reducible exact H | (rw [hy179]; exact H) | exact H
  have Ny179 := Aside0.mk hy179
  clear hy179
  have H' := Aside0.mk H
  clear H
  go_enter Try.func11, Try.ntmps11
  go_wp2_with (first | ((with_reducible refine gate_dst (N := 5) rfl ?_); refine Kd.S_lit (Kd.slice 62 k62) _ 31 ?hg (N := 5) ?hd (xs := ([] : List (List (S62)))) (inner := []) (ok := fun _ => True) (okp := fun _ => True) ?hr ?hp (fun _ hk => hk) trivial (Below.refl _ _) (Nat.le_refl _) (by simp) ?_; (case hd => rfl); (case hg => rfl); (case hr => first | (go_simp; done) | (go_simp; rfl)); (case hp => exact (Reps.none _ _)); intro v180 w2 ho3 hb hg_ hnew_; clear hg_ hnew_; (first | rw [← Ny179.out] at ho3 | (simp only [Int.reduceToNat] at ho3; rw [← Ny179.out] at ho3)); have n0_ := Aside0.mk (Kd.S_lower ho3 (below_size (by repeat (first | (with_reducible first | exact HB.out | apply below_alloc | apply pw_below_drewN | apply below_drew1) | exact HB.out)))); have n1_ := Aside0.mk (below_step (by repeat (first | (with_reducible first | exact HB.out | apply below_alloc | apply pw_below_drewN | apply below_drew1) | exact HB.out)) hb); clear HB; have HO181 := n0_; have HB := n1_; clear n0_ n1_; clear hb ho3))
  go_loopg [3, 4] k (fun kq v3 v4 w' => ∃ (x3_1 : List (List (S62))) (x4_1 : Int), v4 = .int .i64 x4_1 ∧ Aside0 (secateurlaw03_doms.l0 kq l0 x3_1 x4_1 = some r) ∧ Aside0 (kq ≤ k) ∧ Aside0 (Kd.S (Kd.slice 62 k62) 31 w' w.heap.size (fun _ => True) v3 x3_1) ∧ Aside0 (Below w.heap.size w w'))
  case atStart => exact ⟨(y179), (0), (by first | rfl | (simp; done) | (simp [*]; done)), H', ⟨Nat.le_refl _⟩, ⟨by (with_reducible repeat (first | apply Kd.S_alloc | apply Kd.S_drewN | apply Kd.S_drew)); exact HO181.out⟩, ⟨by repeat (first | (with_reducible first | exact HB.out | apply below_alloc | apply pw_below_drewN | apply below_drew1) | exact HB.out)⟩⟩
  case round =>
    clear H'
    try clear c1
    try clear p2
    obtain ⟨x3_1, x4_1, rfl, HA, HK1, HO_3, HB⟩ := hrel
    cases gk with
    | zero => exact absurd HA.out (by simp [secateurlaw03_doms.l0])
    | succ k1 =>
      have H := HA.out
      clear HA
      simp only [secateurlaw03_doms.l0] at H
      by_cases c4 : x4_1 < (l0.length : Int)
      · rw [if_pos c4] at H
        have c4b0 : decide (x4_1 < (l0.length : Int)) = true := decide_eq_true c4
        clear c4
        by_cases c5 : x4_1 < 6
        · rw [if_pos c5] at H
          have c5b0 : decide (x4_1 < 6) = true := decide_eq_true c5
          clear c5
          by_cases c6 : 0 ≤ x4_1
          · rw [if_pos c6] at H
            have c6b0 : decide (0 ≤ x4_1) = true := decide_eq_true c6
            clear c6
            replace H := Option.bind_eq_some_iff.mp H
            obtain ⟨t183, A70, H⟩ := H
            replace H : (if x3_1.length < 5864062014805 then (secateurlaw03_doms.l0 k1 l0 (x3_1 ++ [t183]) (wrap64 (x4_1 + 1))) else (none)) = some r := H
            have A7 := Aside0.mk A70
            clear A70
            by_cases c8 : x3_1.length < 5864062014805
            · rw [if_pos c8] at H
              have LMc8 := Aside0.mk c8
              clear c8
              obtain ⟨y186, hy186⟩ : ∃ y_ : List (List (S62)), y_ = (x3_1 ++ [t183]) := ⟨_, rfl⟩
              replace H : (secateurlaw03_doms.l0 k1 l0 y186 (wrap64 (x4_1 + 1))) = some r := by first | (rw [hy186]; with_reducible exact H) | (have H2_ := (Option.bind_some _ _).symm.trans H; rw [hy186]; with_reducible exact H2_) | (have H2_ := (Option.bind_some _ _).symm.trans H; with_reducible exact H2_) | with_reducible exact H | (rw [hy186]; exact H) | exact H
              have Ny186 := Aside0.mk hy186
              clear hy186
              have H' := Aside0.mk H
              clear H
              have p182 : 0 ≤ (x4_1 : Int) := of_decide_eq_true (by first | (with_reducible assumption) | assumption)
              have q182 : x4_1 < (l0.length : Int) := of_decide_eq_true (by first | (with_reducible assumption) | assumption)
              obtain ⟨ad182, A182_0, c182_0, e182, hx182_0, hl182_0, hi182_0⟩ := at_L2 HR0.out x4_1 p182 q182
              cases e182
              replace hx182_0 := (HB.out.cell (World.block_lt_of_cell? w _ hx182_0)).trans hx182_0
              have HR182_0 := Aside0.mk hi182_0
              have HC182_0 := Aside0.mk hl182_0
              clear hi182_0 hl182_0
              replace p182 := eq_true p182
              replace q182 := eq_true q182
              go_wp2_with (first | ((with_reducible refine gate_callee (f := 15) rfl ?_); refine goesL_ (some 21) rfl rfl Try.func15 (by kernel_rfl) rfl #[.slice A182_0 (rd_L2 l0 x4_1).length c182_0] rfl (by (try simp only [List.map_toArray, List.map_cons, List.map_nil]); first | done | rfl | (simp only [List.length_drop, List.length_take]; rfl)) ?_; (with_reducible refine (secateurlaw02_Small.calls k1 _ _ (rd_L2 l0 x4_1) t183 _ ?side1 ?side2 A7.out).mono ?_); (case side1 => repeat (first | exact (Kd.C_below HR182_0.out HB.out) | (with_reducible refine Kd.C_alloc ?_ _) | (with_reducible refine Kd.C_drewN ?_ _) | (with_reducible refine Kd.C_drew ?_))); (case side2 => exact HC182_0.out); rintro e w9 ⟨v184, rfl, ho0, hb⟩; refine ⟨_, rfl, ?_⟩; have n0_ := Aside0.mk (Kd.S_elder' (by (with_reducible repeat (first | apply Kd.S_alloc | apply Kd.S_drewN | apply Kd.S_drew)); exact HO_3.out) (Kd.R_base ho0) hb); have n1_ := Aside0.mk (Kd.R_lower ho0 (below_size (by repeat (first | (with_reducible first | exact HB.out | apply below_alloc | apply pw_below_drewN | apply below_drew1) | exact HB.out)))); have n2_ := Aside0.mk (below_step (by repeat (first | (with_reducible first | exact HB.out | apply below_alloc | apply pw_below_drewN | apply below_drew1) | exact HB.out)) hb); clear HO_3; clear HB; have HO_3 := n0_; have HO185 := n1_; have HB := n2_; clear n0_ n1_ n2_; (try clear hb); (try clear hb2); (try clear hk); (try clear hi); (try clear ho0); obtain ⟨Ao11, co11, eo11⟩ := Kd.R_slice HO185.out; subst eo11) | ((with_reducible refine gate_builtin (b := .append) (xs := #[.tmp 16, .tmp 22]) rfl ?_); at_builtin; refine Kd.S_append (Kd.slice 62 k62) (w0 := w) w.heap.size rfl (.tmp 16) (.tmp 22) 28 31 (.slice none 0 0) 24 rfl Try.underlying28 info31 rfl (by decide) (by omega) u3 x3_1 t183 [.slice Ao11 t183.length co11] (fun _ => True) (fun k_ => some k_ = (.slice Ao11 t183.length co11 : Value).ownBlock) rfl rfl ?aP (fun k_ hk_ => ((Kd.R_mono (ok' := fun k_ => ((fun _ => True)) k_ ∧ some k_ ≠ (u3 : Value).ownBlock) (Kd.R_apart' (HO185.out) (Kd.S_typed HO_3.out) (by decide)) (fun k_ hk => ⟨trivial, hk.2⟩))).1 k_ hk_.symm) ?aF ?aO ?aB ?aS ?aL ?_; (case aP => exact Kd.M_row (Kd.R_mono (Kd.R_tight rfl (Kd.R_mono (ok' := fun k_ => ((fun _ => True)) k_ ∧ some k_ ≠ (u3 : Value).ownBlock) (Kd.R_apart' (HO185.out) (Kd.S_typed HO_3.out) (by decide)) (fun k_ hk => ⟨trivial, hk.2⟩))) (fun _ h_ => h_))); (case aB => exact (by repeat (first | (with_reducible first | exact HB.out | apply below_alloc | apply pw_below_drewN | apply below_drew1) | exact HB.out))); (case aF => exact (fun _ _ => trivial)); (case aO => exact (by (with_reducible repeat (first | apply Kd.S_alloc | apply Kd.S_drewN | apply Kd.S_drew)); exact Kd.S_mono HO_3.out (fun k_ hk => ⟨trivial, fun e_ => hk.2 e_⟩))); (case aS => exact (below_size (by repeat (first | (with_reducible first | exact HB.out | apply below_alloc | apply pw_below_drewN | apply below_drew1) | exact HB.out)))); (case aL => have := LMc8.out; omega); intro v187 w10 ho hb hg hat; rw [← Ny186.out] at ho; have n0_ := Aside0.mk (hb); have n1_ := Aside0.mk (ho); clear HB; clear HO_3; clear HO185; have HB := n0_; have HO188 := n1_; clear n0_ n1_; clear ho hb hg hat))
              go_roundg k1
              case measure => have := HK1.out; omega
              case rel => exact ⟨(y186), (wrap64 (x4_1 + 1)), (by first | rfl | (simp; done) | (simp [*]; done)), H', ⟨by have := HK1.out; omega⟩, ⟨by (with_reducible repeat (first | apply Kd.S_alloc | apply Kd.S_drewN | apply Kd.S_drew)); exact HO188.out⟩, ⟨by repeat (first | (with_reducible first | exact HB.out | apply below_alloc | apply pw_below_drewN | apply below_drew1) | exact HB.out)⟩⟩
            · rw [if_neg c8] at H
              exact absurd H (by simp)
          · rw [if_neg c6] at H
            exact absurd H (by simp)
        · rw [if_neg c5] at H
          have c5b0 : decide (x4_1 < 6) = false := decide_eq_false c5
          clear c5
          obtain rfl := Option.some.inj H
          go_wp2
          go_ret
          exact ⟨_, by first | rfl | (simp [errW_none, errW_some] <;> rfl) | (simp [*, errW_none, errW_some] <;> rfl), by (with_reducible repeat (first | apply Kd.S_alloc | apply Kd.S_drewN | apply Kd.S_drew)); exact HO_3.out, by repeat (first | (with_reducible first | exact HB.out | apply below_alloc | apply pw_below_drewN | apply below_drew1) | exact HB.out)⟩
      · rw [if_neg c4] at H
        have c4b0 : decide (x4_1 < (l0.length : Int)) = false := decide_eq_false c4
        clear c4
        obtain rfl := Option.some.inj H
        go_wp2
        go_ret
        exact ⟨_, by first | rfl | (simp [errW_none, errW_some] <;> rfl) | (simp [*, errW_none, errW_some] <;> rfl), by (with_reducible repeat (first | apply Kd.S_alloc | apply Kd.S_drewN | apply Kd.S_drew)); exact HO_3.out, by repeat (first | (with_reducible first | exact HB.out | apply below_alloc | apply pw_below_drewN | apply below_drew1) | exact HB.out)⟩

/-- A state of type 39 at block g of W; what its slices lead to came in by w0. -/
def IsS39 (w0 W : World) (g : Nat) (f0 : List (List (S62))) (f1 : List (S67)) (f2 : List Int) : Prop := ∃ A0 c0, ∃ A1 c1, ∃ A2 c2, W.heap[g]? = some (.cells #[.slice A0 f0.length c0, .slice A1 f1.length c1, .slice A2 f2.length c2] 39 (0, 0)) ∧ w0.heap.size ≤ g ∧ Kd.C (Kd.slice 62 k62) w0 A0 f0.length f0 ∧ Kd.C k67 w0 A1 f1.length f1 ∧ Kd.C (Kd.int .i64) w0 A2 f2.length f2
theorem IsS39.grown {w0 W : World} {g : Nat} {f0 : List (List (S62))} {f1 : List (S67)} {f2 : List Int} {W1 : World} {row : Option Nat} (h : IsS39 w0 W g f0 f1 f2) (hw : W.grownBy W1 row) (hne : some g ≠ row) : IsS39 w0 W1 g f0 f1 f2 := by
  obtain ⟨A0, c0, A1, c1, A2, c2, hb, hg, hr0, hr1, hr2⟩ := h
  exact ⟨A0, c0, A1, c1, A2, c2, blk_grown hb hw hne, hg, hr0, hr1, hr2⟩
theorem IsS39.own_neN {w0 W : World} {g : Nat} {f0 : List (List (S62))} {f1 : List (S67)} {f2 : List Int} {α : Type} {d : Kd α} {e : Nat} {base : Nat} {ok : Nat → Prop} {v : Value} {xs : List α} (h : IsS39 w0 W g f0 f1 f2) (ho : Kd.N d e W base ok v xs) (ht : e ≠ 39) : some g ≠ v.ownBlock := by
  obtain ⟨A0, c0, A1, c1, A2, c2, hb, hg, hr0, hr1, hr2⟩ := h
  exact Kd.N_ne ho hb ht
theorem IsS39.fresh {w0 W : World} {g : Nat} {f0 : List (List (S62))} {f1 : List (S67)} {f2 : List Int} (h : IsS39 w0 W g f0 f1 f2) : ∀ k, W.heap.size ≤ k → k ≠ g := by
  obtain ⟨A0, c0, A1, c1, A2, c2, hb, hg, hr0, hr1, hr2⟩ := h
  exact Kd.freshB hb
theorem IsS39.kept {w0 W : World} {g : Nat} {f0 : List (List (S62))} {f1 : List (S67)} {f2 : List Int} {W1 : World} {S : Nat → Prop} (h : IsS39 w0 W g f0 f1 f2) (hk : Kept W W1 S) (hne : ¬ S g) : IsS39 w0 W1 g f0 f1 f2 := by
  obtain ⟨A0, c0, A1, c1, A2, c2, hb, hg, hr0, hr1, hr2⟩ := h
  exact ⟨A0, c0, A1, c1, A2, c2, blk_kept hb hk hne, hg, hr0, hr1, hr2⟩
theorem IsS39.below {w0 W : World} {g : Nat} {f0 : List (List (S62))} {f1 : List (S67)} {f2 : List Int} {W1 : World} (h : IsS39 w0 W g f0 f1 f2) (hw : Below W.heap.size W W1) : IsS39 w0 W1 g f0 f1 f2 := h.grown (grown_of_below hw none) (by simp)
theorem IsS39.alloc {w0 W : World} {g : Nat} {f0 : List (List (S62))} {f1 : List (S67)} {f2 : List Int} (h : IsS39 w0 W g f0 f1 f2) (o : Obj) : IsS39 w0 (W.alloc o) g f0 f1 f2 := h.below (below_alloc (Below.refl _ _) o)
theorem IsS39.drewN {w0 W : World} {g : Nat} {f0 : List (List (S62))} {f1 : List (S67)} {f2 : List Int} (h : IsS39 w0 W g f0 f1 f2) (m : Nat) : IsS39 w0 (W.drewN m) g f0 f1 f2 := h
theorem IsS39.drew {w0 W : World} {g : Nat} {f0 : List (List (S62))} {f1 : List (S67)} {f2 : List Int} (h : IsS39 w0 W g f0 f1 f2) : IsS39 w0 W.drew g f0 f1 f2 := h
theorem IsS39.at_ {w0 W : World} {g : Nat} {f0 : List (List (S62))} {f1 : List (S67)} {f2 : List Int} {w' : World} {m : Nat} (hq : W.drewN m = w') (h : IsS39 w0 W g f0 f1 f2) : IsS39 w0 w' g f0 f1 f2 := by subst hq; exact IsS39.drewN h m
theorem IsS39.apart {w0 W : World} {g : Nat} {f0 : List (List (S62))} {f1 : List (S67)} {f2 : List Int} {α : Type} {d : Kd α} {e : Nat} {base : Nat} {ok : Nat → Prop} {v : Value} {xs : List α} (h : IsS39 w0 W g f0 f1 f2) (ho : d.R e W base ok v xs) (ht : ∀ q, q ∈ e :: d.E → q ≠ 39) : d.R e W base (fun k => ok k ∧ k ≠ g) v xs := by
  obtain ⟨A0, c0, A1, c1, A2, c2, hb, hg, hr0, hr1, hr2⟩ := h
  exact Kd.R_types ho hb ht
theorem IsS39.own_ne {w0 W : World} {g : Nat} {f0 : List (List (S62))} {f1 : List (S67)} {f2 : List Int} {α : Type} {d : Kd α} {e : Nat} {base : Nat} {ok : Nat → Prop} {v : Value} {xs : List α} (h : IsS39 w0 W g f0 f1 f2) (ho : d.R e W base ok v xs) (ht : e ≠ 39) : some g ≠ v.ownBlock := by
  obtain ⟨A0, c0, A1, c1, A2, c2, hb, hg, hr0, hr1, hr2⟩ := h
  exact Kd.R_ne ho hb ht
theorem IsS39.apartQ {w0 W : World} {g : Nat} {f0 : List (List (S62))} {f1 : List (S67)} {f2 : List Int} {α : Type} {d : Kd α} {e : Nat} {base : Nat} {ok : Nat → Prop} {v : Value} {xs : List α} (h : IsS39 w0 W g f0 f1 f2) (ho : d.Q e W base ok v xs) (ht : ∀ q, q ∈ e :: d.E → q ≠ 39) : d.Q e W base (fun k => ok k ∧ k ≠ g) v xs := by
  obtain ⟨A0, c0, A1, c1, A2, c2, hb, hg, hr0, hr1, hr2⟩ := h
  exact Kd.Q_types ho hb ht
theorem IsS39.own_neQ {w0 W : World} {g : Nat} {f0 : List (List (S62))} {f1 : List (S67)} {f2 : List Int} {α : Type} {d : Kd α} {e : Nat} {base : Nat} {ok : Nat → Prop} {v : Value} {xs : List α} (h : IsS39 w0 W g f0 f1 f2) (ho : d.Q e W base ok v xs) (ht : e ≠ 39) : some g ≠ v.ownBlock := by
  obtain ⟨A0, c0, A1, c1, A2, c2, hb, hg, hr0, hr1, hr2⟩ := h
  exact Kd.Q_ne ho hb ht
theorem IsS39.apartS {w0 W : World} {g : Nat} {f0 : List (List (S62))} {f1 : List (S67)} {f2 : List Int} {α : Type} {d : Kd α} {e : Nat} {base : Nat} {ok : Nat → Prop} {v : Value} {xs : List α} (h : IsS39 w0 W g f0 f1 f2) (ho : d.S e W base ok v xs) (ht : ∀ q, q ∈ e :: d.E → q ≠ 39) : d.S e W base (fun k => ok k ∧ k ≠ g) v xs := by
  obtain ⟨A0, c0, A1, c1, A2, c2, hb, hg, hr0, hr1, hr2⟩ := h
  exact Kd.S_types ho hb ht
theorem IsS39.own_neS {w0 W : World} {g : Nat} {f0 : List (List (S62))} {f1 : List (S67)} {f2 : List Int} {α : Type} {d : Kd α} {e : Nat} {base : Nat} {ok : Nat → Prop} {v : Value} {xs : List α} (h : IsS39 w0 W g f0 f1 f2) (ho : d.S e W base ok v xs) (ht : e ≠ 39) : some g ≠ v.ownBlock := by
  obtain ⟨A0, c0, A1, c1, A2, c2, hb, hg, hr0, hr1, hr2⟩ := h
  exact Kd.S_ne ho hb ht
theorem IsS39.lt {w0 W : World} {g : Nat} {f0 : List (List (S62))} {f1 : List (S67)} {f2 : List Int} (h : IsS39 w0 W g f0 f1 f2) : g < W.heap.size := by
  obtain ⟨A0, c0, A1, c1, A2, c2, hb, hg, hr0, hr1, hr2⟩ := h
  exact blk_lt hb
theorem IsS39.ge {w0 W : World} {g : Nat} {f0 : List (List (S62))} {f1 : List (S67)} {f2 : List Int} (h : IsS39 w0 W g f0 f1 f2) : w0.heap.size ≤ g := by
  obtain ⟨A0, c0, A1, c1, A2, c2, hb, hg, hr0, hr1, hr2⟩ := h
  exact hg
theorem IsS39.ne_blk {w0 W : World} {g : Nat} {f0 : List (List (S62))} {f1 : List (S67)} {f2 : List Int} {a : Nat} {cs : Array Value} {t : TypeId} {fr : Nat × Nat} (h : IsS39 w0 W g f0 f1 f2) (hb2 : W.heap[a]? = some (.cells cs t fr)) (ht : t ≠ 39) : g ≠ a := by
  obtain ⟨A0, c0, A1, c1, A2, c2, hb, hg, hr0, hr1, hr2⟩ := h
  rintro rfl
  rw [hb] at hb2
  injection hb2 with hb2
  injection hb2 with _ ht2
  exact ht ht2.symm
theorem IsS39.far {w0 W : World} {g : Nat} {f0 : List (List (S62))} {f1 : List (S67)} {f2 : List Int} {p : Addr} (h : IsS39 w0 W g f0 f1 f2) (hne : g ≠ p.block) (u : Value) : IsS39 w0 (W.setCell p u) g f0 f1 f2 := by
  obtain ⟨A0, c0, A1, c1, A2, c2, hb, hg, hr0, hr1, hr2⟩ := h
  exact ⟨A0, c0, A1, c1, A2, c2, blk_far hb hne u, hg, hr0, hr1, hr2⟩
theorem cellS39_0 {W : World} {g : Nat} {A0 : Option Addr} {c0 : Nat} {A1 : Option Addr} {c1 : Nat} {A2 : Option Addr} {c2 : Nat} {f0 : List (List (S62))} {f1 : List (S67)} {f2 : List Int} (h : W.heap[g]? = some (.cells #[.slice A0 f0.length c0, .slice A1 f1.length c1, .slice A2 f2.length c2] 39 (0, 0))) : W.cell? ⟨g, 0, none⟩ = some (.slice A0 f0.length c0) := (blk_cell h 0).trans rfl
theorem cellS39_1 {W : World} {g : Nat} {A0 : Option Addr} {c0 : Nat} {A1 : Option Addr} {c1 : Nat} {A2 : Option Addr} {c2 : Nat} {f0 : List (List (S62))} {f1 : List (S67)} {f2 : List Int} (h : W.heap[g]? = some (.cells #[.slice A0 f0.length c0, .slice A1 f1.length c1, .slice A2 f2.length c2] 39 (0, 0))) : W.cell? ⟨g, 1, none⟩ = some (.slice A1 f1.length c1) := (blk_cell h 1).trans rfl
theorem cellS39_2 {W : World} {g : Nat} {A0 : Option Addr} {c0 : Nat} {A1 : Option Addr} {c1 : Nat} {A2 : Option Addr} {c2 : Nat} {f0 : List (List (S62))} {f1 : List (S67)} {f2 : List Int} (h : W.heap[g]? = some (.cells #[.slice A0 f0.length c0, .slice A1 f1.length c1, .slice A2 f2.length c2] 39 (0, 0))) : W.cell? ⟨g, 2, none⟩ = some (.slice A2 f2.length c2) := (blk_cell h 2).trans rfl
theorem IsS39.new (w0 W : World) (A0 : Option Addr) (c0 : Nat) (A1 : Option Addr) (c1 : Nat) (A2 : Option Addr) (c2 : Nat) (f0 : List (List (S62))) (f1 : List (S67)) (f2 : List Int) (hB : Below w0.heap.size w0 W) (hr0 : Kd.C (Kd.slice 62 k62) w0 A0 f0.length f0) (hr1 : Kd.C k67 w0 A1 f1.length f1) (hr2 : Kd.C (Kd.int .i64) w0 A2 f2.length f2) : IsS39 w0 (W.alloc (.cells #[.slice A0 f0.length c0, .slice A1 f1.length c1, .slice A2 f2.length c2] 39)) W.heap.size f0 f1 f2 := ⟨A0, c0, A1, c1, A2, c2, by simpa using heap_alloc_new W _, hB.size, hr0, hr1, hr2⟩

/-! ### trail_Store_Changes: function 13 -/
def trail_Store_Changes.f (s0_0 : List (List (S62))) (s0_1 : List (S67)) (s0_2 : List Int) : Option (Int) := some (s0_1.length : Int)
set_option maxHeartbeats 8000000 in
set_option maxRecDepth 100000 in
theorem trail_Store_Changes.calls (g : Nat) (s0_0 : List (List (S62))) (s0_1 : List (S67)) (s0_2 : List Int) (r : Int) (w0 w : World) (hI : IsS39 w0 w g s0_0 s0_1 s0_2) (hB : Below w0.heap.size w0 w) (h : trail_Store_Changes.f s0_0 s0_1 s0_2 = some r) :
    Calls Try.prog 13 #[.pointer (some ⟨g, 0, none⟩)] w fun e w' => e = .returned (.int .i64 r) ∧ IsS39 w0 w' g s0_0 s0_1 s0_2 ∧ Below w0.heap.size w0 w' ∧ KeepBut w w' g none := by
  have HI0 := Aside0.mk hI
  have HK := Aside0.mk (KeepBut.refl w g none)
  have HL := Aside0.mk hB.size
  clear hI
  have HW0 := Aside0.mk hB.size
  have HB := Aside0.mk hB
  clear hB
  have H : (some (s0_1.length : Int)) = some r := h
  clear h
  obtain rfl := Option.some.inj H
  obtain ⟨ASz2_0, cSz2_0, ASz2_1, cSz2_1, ASz2_2, cSz2_2, HGz2, hgz2, HSz2_0, HSz2_1, HSz2_2⟩ := HI0.out
  have hcz2_0 := cellS39_0 HGz2
  have hcz2_1 := cellS39_1 HGz2
  have hcz2_2 := cellS39_2 HGz2
  clear HGz2 hgz2
  go_enter Try.func13, Try.ntmps13
  go_wp2
  go_ret
  exact ⟨by first | rfl | (simp [errW_none, errW_some] <;> rfl) | (simp [*, errW_none, errW_some] <;> rfl), by repeat (first | (with_reducible first | exact HI0.out | apply IsS39.alloc | apply IsS39.drewN | apply IsS39.drew) | exact HI0.out), by repeat (first | (with_reducible first | exact HB.out | apply below_alloc | apply pw_below_drewN | apply below_drew1 | refine below_set ?_ (IsS39.ge HI0.out)) | exact HB.out), by repeat (first | (with_reducible first | exact HK.out | apply KeepBut.set_ | apply keep_drewN | apply keep_drew | apply keep_alloc) | exact HK.out)⟩

/-! ### dom_Minus: function 35 -/
mutual
def dom_Minus.l0 : Nat → List (S62) → List (S62) → List (S62) → Int → Int → Option ((List (S62)))
  | 0, _, _, _, _, _ => none
  | k + 1, x1, x5, x10, x11, x12 => if x12 < x11 then (if 0 ≤ x12 then (if x12 < (x10.length : Int) then (dom_Minus.l1 k x1 x5 x10 x11 x12 x1 (x1.length : Int) 0 ((rd_T62 x10 x12).f0) ((rd_T62 x10 x12).f1)) else (none)) else (none)) else (some x5)
def dom_Minus.l1 : Nat → List (S62) → List (S62) → List (S62) → Int → Int → List (S62) → Int → Int → Int → Int → Option ((List (S62)))
  | 0, _, _, _, _, _, _, _, _, _, _ => none
  | k + 1, x1, x5, x10, x11, x12, x16, x17, x18, x191000, x191001 => if x18 < x17 then (if 0 ≤ x18 then (if x18 < (x16.length : Int) then (if ((rd_T62 x16 x18).f1) < x191000 then (dom_Minus.j2 k x1 x5 x10 x11 x12 x16 x17 x18 true x191000 x191001 ((rd_T62 x16 x18).f0) ((rd_T62 x16 x18).f1)) else (dom_Minus.j2 k x1 x5 x10 x11 x12 x16 x17 x18 (decide (((rd_T62 x16 x18).f0) > x191001)) x191000 x191001 ((rd_T62 x16 x18).f0) ((rd_T62 x16 x18).f1))) else (none)) else (none)) else (if x191000 ≤ x191001 then (if x5.length < 8796093022208 then (dom_Minus.l0 k x1 (x5 ++ [(⟨x191000, x191001⟩ : S62)]) x10 x11 (wrap64 (x12 + 1))) else (none)) else (dom_Minus.l0 k x1 x5 x10 x11 (wrap64 (x12 + 1))))
def dom_Minus.j2 : Nat → List (S62) → List (S62) → List (S62) → Int → Int → List (S62) → Int → Int → Bool → Int → Int → Int → Int → Option ((List (S62)))
  | 0, _, _, _, _, _, _, _, _, _, _, _, _, _ => none
  | k + 1, x1, x5, x10, x11, x12, x16, x17, x18, x33, x191000, x191001, x196000, x196001 => if x33 = true then (dom_Minus.l1 k x1 x5 x10 x11 x12 x16 x17 (wrap64 (x18 + 1)) x191000 x191001) else (if x196000 > x191000 then (if x5.length < 8796093022208 then (dom_Minus.l1 k x1 (x5 ++ [(⟨x191000, wrap64 (x196000 - 1)⟩ : S62)]) x10 x11 x12 x16 x17 (wrap64 (x18 + 1)) (wrap64 (x196001 + 1)) x191001) else (none)) else (dom_Minus.l1 k x1 x5 x10 x11 x12 x16 x17 (wrap64 (x18 + 1)) (wrap64 (x196001 + 1)) x191001))
end
def dom_Minus.f (k : Nat) (l0 : List (S62)) (l1 : List (S62)) : Option ((List (S62))) := dom_Minus.l0 k l1 ([] : List (S62)) l0 (l0.length : Int) 0
theorem dom_Minus.mono_l : ∀ k, (∀ y0 y1 y2 y3 y4, LeO (dom_Minus.l0 k y0 y1 y2 y3 y4) (dom_Minus.l0 (k + 1) y0 y1 y2 y3 y4)) ∧ (∀ y0 y1 y2 y3 y4 y5 y6 y7 y8 y9, LeO (dom_Minus.l1 k y0 y1 y2 y3 y4 y5 y6 y7 y8 y9) (dom_Minus.l1 (k + 1) y0 y1 y2 y3 y4 y5 y6 y7 y8 y9)) ∧ (∀ y0 y1 y2 y3 y4 y5 y6 y7 y8 y9 y10 y11 y12, LeO (dom_Minus.j2 k y0 y1 y2 y3 y4 y5 y6 y7 y8 y9 y10 y11 y12) (dom_Minus.j2 (k + 1) y0 y1 y2 y3 y4 y5 y6 y7 y8 y9 y10 y11 y12))
  | 0 => ⟨fun _ _ _ _ _ r h => by simp [dom_Minus.l0] at h, fun _ _ _ _ _ _ _ _ _ _ r h => by simp [dom_Minus.l1] at h, fun _ _ _ _ _ _ _ _ _ _ _ _ _ r h => by simp [dom_Minus.j2] at h⟩
  | k + 1 => by
    obtain ⟨ih0, ih1, ih2⟩ := dom_Minus.mono_l k
    refine ⟨?_, ?_, ?_⟩
    · intro y0 y1 y2 y3 y4
      unfold dom_Minus.l0
      repeat' first
      | (with_reducible exact ih0 _ _ _ _ _)
      | (with_reducible exact ih1 _ _ _ _ _ _ _ _ _ _)
      | (with_reducible exact ih2 _ _ _ _ _ _ _ _ _ _ _ _ _)
      | (with_reducible exact LeO.refl _)
      | (with_reducible exact LeO.none _)
      | (with_reducible refine LeO.ite ?_ ?_)
      | (with_reducible refine LeO.bind ?_ (fun _ => ?_))
      | exact ih0 _ _ _ _ _
      | exact ih1 _ _ _ _ _ _ _ _ _ _
      | exact ih2 _ _ _ _ _ _ _ _ _ _ _ _ _
      | exact LeO.none _
      | refine LeO.ite ?_ ?_
      | refine LeO.bind ?_ (fun _ => ?_)
    · intro y0 y1 y2 y3 y4 y5 y6 y7 y8 y9
      unfold dom_Minus.l1
      repeat' first
      | (with_reducible exact ih0 _ _ _ _ _)
      | (with_reducible exact ih1 _ _ _ _ _ _ _ _ _ _)
      | (with_reducible exact ih2 _ _ _ _ _ _ _ _ _ _ _ _ _)
      | (with_reducible exact LeO.refl _)
      | (with_reducible exact LeO.none _)
      | (with_reducible refine LeO.ite ?_ ?_)
      | (with_reducible refine LeO.bind ?_ (fun _ => ?_))
      | exact ih0 _ _ _ _ _
      | exact ih1 _ _ _ _ _ _ _ _ _ _
      | exact ih2 _ _ _ _ _ _ _ _ _ _ _ _ _
      | exact LeO.none _
      | refine LeO.ite ?_ ?_
      | refine LeO.bind ?_ (fun _ => ?_)
    · intro y0 y1 y2 y3 y4 y5 y6 y7 y8 y9 y10 y11 y12
      unfold dom_Minus.j2
      repeat' first
      | (with_reducible exact ih0 _ _ _ _ _)
      | (with_reducible exact ih1 _ _ _ _ _ _ _ _ _ _)
      | (with_reducible exact ih2 _ _ _ _ _ _ _ _ _ _ _ _ _)
      | (with_reducible exact LeO.refl _)
      | (with_reducible exact LeO.none _)
      | (with_reducible refine LeO.ite ?_ ?_)
      | (with_reducible refine LeO.bind ?_ (fun _ => ?_))
      | exact ih0 _ _ _ _ _
      | exact ih1 _ _ _ _ _ _ _ _ _ _
      | exact ih2 _ _ _ _ _ _ _ _ _ _ _ _ _
      | exact LeO.none _
      | refine LeO.ite ?_ ?_
      | refine LeO.bind ?_ (fun _ => ?_)
theorem dom_Minus.mono : ∀ a0 a1 k, LeO (dom_Minus.f k a0 a1) (dom_Minus.f (k + 1) a0 a1) := by
  intro a0 a1 k
  obtain ⟨ih0, ih1, ih2⟩ := dom_Minus.mono_l k
  unfold dom_Minus.f
  repeat' first
      | (with_reducible exact ih0 _ _ _ _ _)
      | (with_reducible exact ih1 _ _ _ _ _ _ _ _ _ _)
      | (with_reducible exact ih2 _ _ _ _ _ _ _ _ _ _ _ _ _)
      | (with_reducible exact LeO.refl _)
      | (with_reducible exact LeO.none _)
      | (with_reducible refine LeO.ite ?_ ?_)
      | (with_reducible refine LeO.bind ?_ (fun _ => ?_))
      | exact ih0 _ _ _ _ _
      | exact ih1 _ _ _ _ _ _ _ _ _ _
      | exact ih2 _ _ _ _ _ _ _ _ _ _ _ _ _
      | exact LeO.none _
      | refine LeO.ite ?_ ?_
      | refine LeO.bind ?_ (fun _ => ?_)
set_option maxHeartbeats 8000000 in
set_option maxRecDepth 100000 in
theorem dom_Minus.calls (k : Nat) (A0 : Option Addr) (c0 : Nat) (l0 : List (S62)) (A1 : Option Addr) (c1 : Nat) (l1 : List (S62)) (r : List (S62)) (w : World) (hr0 : Kd.C k62 w A0 l0.length l0) (hc0 : l0.length ≤ c0) (hr1 : Kd.C k62 w A1 l1.length l1) (hc1 : l1.length ≤ c1) (h : dom_Minus.f k l0 l1 = some r) :
    Calls Try.prog 35 #[.slice A0 l0.length c0, .slice A1 l1.length c1] w fun e w' => ∃ v0_ : Value, e = .returned (v0_) ∧ Kd.R k62 62 w' w.heap.size (fun _ => True) v0_ r ∧ Below w.heap.size w w' := by
  have hu62 := Try.underlying62
  have HR0 := Aside0.mk hr0
  have HC0 := Aside0.mk hc0
  clear hr0 hc0
  have HR1 := Aside0.mk hr1
  have HC1 := Aside0.mk hc1
  clear hr1 hc1
  have HB := Aside0.mk (Below.refl w.heap.size w)
  have H : (dom_Minus.l0 k l1 ([] : List (S62)) l0 (l0.length : Int) 0) = some r := h
  clear h
  have H' := Aside0.mk H
  clear H
  go_enter Try.func35, Try.ntmps35
  go_wp2
  go_loopg [5, 12] k (fun kq v5 v12 w' => ∃ (x5_1 : List (S62)) (x12_1 : Int), v12 = .int .i64 x12_1 ∧ Aside0 (dom_Minus.l0 kq l1 x5_1 l0 (l0.length : Int) x12_1 = some r) ∧ Aside0 (kq ≤ k) ∧ Aside0 (Kd.R k62 62 w' w.heap.size (fun _ => True) v5 x5_1) ∧ Aside0 (Below w.heap.size w w'))
  case atStart => exact ⟨(([] : List (S62))), (0), (by first | rfl | (simp; done) | (simp [*]; done)), H', ⟨Nat.le_refl _⟩, ⟨by first | exact Kd.R_nil _ _ _ _ _ | exact Kd.N_nil _ _ _ _ _ | exact Kd.V_nil _ _ _ _ _ | exact Kd.Q_nil _ _ _ _ _ | exact Kd.S_nil _ _ _ _ _⟩, ⟨by repeat (first | (with_reducible first | exact HB.out | apply below_alloc | apply pw_below_drewN | apply below_drew1) | exact HB.out)⟩⟩
  case round =>
    clear H'
    try clear c1
    try clear p2
    obtain ⟨x5_1, x12_1, rfl, HA, HK1, HO_5, HB⟩ := hrel
    cases gk with
    | zero => exact absurd HA.out (by simp [dom_Minus.l0])
    | succ k1 =>
      have H := HA.out
      clear HA
      simp only [dom_Minus.l0] at H
      by_cases c3 : x12_1 < (l0.length : Int)
      · rw [if_pos c3] at H
        have c3b0 : decide (x12_1 < (l0.length : Int)) = true := decide_eq_true c3
        clear c3
        by_cases c4 : 0 ≤ x12_1
        · rw [if_pos c4] at H
          have c4b0 : decide (0 ≤ x12_1) = true := decide_eq_true c4
          clear c4
          by_cases c5 : x12_1 < (l0.length : Int)
          · rw [if_pos c5] at H
            have c5b0 : decide (x12_1 < (l0.length : Int)) = true := decide_eq_true c5
            clear c5
            have H' := Aside0.mk H
            clear H
            have p189 : 0 ≤ (x12_1 : Int) := of_decide_eq_true (by first | (with_reducible assumption) | assumption)
            have q189 : x12_1 < (l0.length : Int) := of_decide_eq_true (by first | (with_reducible assumption) | assumption)
            obtain ⟨ad189, e189, hx189_0, hx189_1⟩ := at_T62 HR0.out x12_1 p189 q189
            cases e189
            replace hx189_0 := (HB.out.cell (World.block_lt_of_cell? w _ hx189_0)).trans hx189_0
            replace hx189_1 := (HB.out.cell (World.block_lt_of_cell? w _ hx189_1)).trans hx189_1
            replace p189 := eq_true p189
            replace q189 := eq_true q189
            go_wp2_with (first | ((with_reducible refine gate_dst (N := 7) rfl ?_); refine box_event ?hg (N := 7) ?hd (cs := #[.int .i64 0, .int .i64 0]) (t := 62) ?hr ?_; (case hd => rfl); (case hg => rfl); (case hr => first | (go_simp; done) | (go_simp; rfl)); intro gb190 hg w6 hbox hb; have n0_ := Aside0.mk (Kd.R_below (Kd.R_elderB (by (with_reducible repeat (first | apply Kd.R_alloc | apply Kd.R_drewN | apply Kd.R_drew)); exact HO_5.out) gb190 (Nat.le_of_eq hg.symm)) hb); have n1_ := Aside0.mk (below_step (by repeat (first | (with_reducible first | exact HB.out | apply below_alloc | apply pw_below_drewN | apply below_drew1) | exact HB.out)) hb); have n2_ := Aside0.mk (hbox); have n3_ := Aside0.mk ((by rw [hg]; exact (below_size (by repeat (first | (with_reducible first | exact HB.out | apply below_alloc | apply pw_below_drewN | apply below_drew1) | exact HB.out))) : w.heap.size ≤ gb190)); have n4_ := Aside0.mk ((by rw [hg]; exact (below_size (by repeat (first | (with_reducible first | exact HB.out | apply below_alloc | apply pw_below_drewN | apply below_drew1) | exact HB.out))) : w.heap.size ≤ gb190)); clear HO_5; clear HB; have HO_5 := n0_; have HB := n1_; have BK190 := n2_; have GW190 := n3_; have GE190 := n4_; clear n0_ n1_ n2_ n3_ n4_; clear hb hbox hg; have hcz7_0 : w6.cell? ⟨gb190, 0, none⟩ = some (.int .i64 0) := (blk_cell BK190.out 0).trans rfl; have hcz7_1 : w6.cell? ⟨gb190, 1, none⟩ = some (.int .i64 0) := (blk_cell BK190.out 1).trans rfl; have hfz7_0 := blk_frozen BK190.out 0; have hfz7_1 := blk_frozen BK190.out 1))
            go_loopg [5, 18] k1 (fun kq v5 v18 w' => ∃ (x5_2 : List (S62)) (x18_2 : Int) (x191000_2 : Int), v18 = .int .i64 x18_2 ∧ Aside0 (dom_Minus.l1 kq l1 x5_2 l0 (l0.length : Int) x12_1 l1 (l1.length : Int) x18_2 x191000_2 ((rd_T62 l0 x12_1).f1) = some r) ∧ Aside0 (kq ≤ k1) ∧ Aside0 (Kd.R k62 62 w' w.heap.size (fun k_ => k_ ≠ gb190) v5 x5_2) ∧ Aside0 (w'.heap[gb190]? = some (.cells #[.int .i64 x191000_2, .int .i64 ((rd_T62 l0 x12_1).f1)] 62 (0, 0))) ∧ Aside0 (Below w.heap.size w w'))
            case atStart => exact ⟨(x5_1), (0), ((rd_T62 l0 x12_1).f0), (by first | rfl | (simp; done) | (simp [*]; done)), H', ⟨Nat.le_refl _⟩, ⟨by (with_reducible repeat (first | apply Kd.R_alloc | apply Kd.R_drewN | apply Kd.R_drew)); exact Kd.R_mono (Kd.R_far (p := ⟨gb190, 1, none⟩) (Kd.R_far (p := ⟨gb190, 0, none⟩) (Kd.R_mono HO_5.out (fun k_ hk => (⟨hk, hk.2⟩ : _ ∧ k_ ≠ gb190))) (fun _ hk => hk.2) (.int .i64 ((rd_T62 l0 x12_1).f0))) (fun _ hk => hk.2) (.int .i64 ((rd_T62 l0 x12_1).f1))) (fun _ hk => hk.1.2)⟩, ⟨by (with_reducible repeat (first | refine blk_drewN ?_ _ | refine blk_drew ?_ | refine blk_alloc ?_ _)); refine blk_put (cs := #[.int .i64 ((rd_T62 l0 x12_1).f0), .int .i64 0]) ?_ 1 _ rfl; (with_reducible repeat (first | refine blk_drewN ?_ _ | refine blk_drew ?_ | refine blk_alloc ?_ _)); refine blk_put (cs := #[.int .i64 0, .int .i64 0]) ?_ 0 _ rfl; (with_reducible repeat (first | refine blk_drewN ?_ _ | refine blk_drew ?_ | refine blk_alloc ?_ _)); exact BK190.out⟩, ⟨by repeat (first | (with_reducible first | exact HB.out | apply below_alloc | apply pw_below_drewN | apply below_drew1 | refine below_set ?_ GE190.out) | exact HB.out)⟩⟩
            case round =>
              clear H'
              try clear c1
              try clear p1
              try clear q1
              try clear hx1
              try clear p2
              try clear c3
              try clear c3b0
              try clear c4
              try clear c4b0
              try clear c5
              try clear c5b0
              try clear hcz7_0
              try clear hcz7_1
              try clear hfz7_0
              try clear hfz7_1
              try clear hx189_0
              try clear hx189_1
              try clear p189
              try clear p2
              try clear q189
              obtain ⟨x5_2, x18_2, x191000_2, rfl, HA, HK2, HO_5, BK190, HB⟩ := hrel
              cases gk with
              | zero => exact absurd HA.out (by simp [dom_Minus.l1])
              | succ k2 =>
                have H := HA.out
                clear HA
                simp only [dom_Minus.l1] at H
                by_cases c8 : x18_2 < (l1.length : Int)
                · rw [if_pos c8] at H
                  have c8b0 : decide (x18_2 < (l1.length : Int)) = true := decide_eq_true c8
                  clear c8
                  by_cases c9 : 0 ≤ x18_2
                  · rw [if_pos c9] at H
                    have c9b0 : decide (0 ≤ x18_2) = true := decide_eq_true c9
                    clear c9
                    by_cases c10 : x18_2 < (l1.length : Int)
                    · rw [if_pos c10] at H
                      have c10b0 : decide (x18_2 < (l1.length : Int)) = true := decide_eq_true c10
                      clear c10
                      have HC11 := Aside0.mk H
                      clear H
                      have p194 : 0 ≤ (x18_2 : Int) := of_decide_eq_true (by first | (with_reducible assumption) | assumption)
                      have q194 : x18_2 < (l1.length : Int) := of_decide_eq_true (by first | (with_reducible assumption) | assumption)
                      obtain ⟨ad194, e194, hx194_0, hx194_1⟩ := at_T62 HR1.out x18_2 p194 q194
                      cases e194
                      replace hx194_0 := (HB.out.cell (World.block_lt_of_cell? w _ hx194_0)).trans hx194_0
                      replace hx194_1 := (HB.out.cell (World.block_lt_of_cell? w _ hx194_1)).trans hx194_1
                      replace p194 := eq_true p194
                      replace q194 := eq_true q194
                      go_upto_region 8 with (first | ((with_reducible refine gate_dst (N := 9) rfl ?_); refine box_event ?hg (N := 9) ?hd (cs := #[.int .i64 0, .int .i64 0]) (t := 62) ?hr ?_; (case hd => rfl); (case hg => rfl); (case hr => first | (go_simp; done) | (go_simp; rfl)); intro gb195 hg w12 hbox hb; have n0_ := Aside0.mk (Kd.R_below (Kd.R_elderB (by (with_reducible repeat (first | apply Kd.R_alloc | apply Kd.R_drewN | apply Kd.R_drew)); exact HO_5.out) gb195 (Nat.le_of_eq hg.symm)) hb); have n1_ := Aside0.mk (blk_below (g := gb190) (o := .cells #[.int .i64 x191000_2, .int .i64 ((rd_T62 l0 x12_1).f1)] 62 (0, 0)) (by (with_reducible repeat (first | refine blk_drewN ?_ _ | refine blk_drew ?_ | refine blk_alloc ?_ _)); exact BK190.out) hb); have n2_ := Aside0.mk (below_step (by repeat (first | (with_reducible first | exact HB.out | apply below_alloc | apply pw_below_drewN | apply below_drew1 | refine below_set ?_ GE190.out) | exact HB.out)) hb); have n3_ := Aside0.mk (hbox); have n4_ := Aside0.mk ((by rw [hg]; exact (below_size (by repeat (first | (with_reducible first | exact HB.out | apply below_alloc | apply pw_below_drewN | apply below_drew1 | refine below_set ?_ GE190.out) | exact HB.out))) : w.heap.size ≤ gb195)); have n5_ := Aside0.mk ((by rw [hg]; exact (below_size (by repeat (first | (with_reducible first | exact HB.out | apply below_alloc | apply pw_below_drewN | apply below_drew1 | refine below_set ?_ GE190.out) | exact HB.out))) : w.heap.size ≤ gb195)); have n6_ := Aside0.mk ((by rw [hg]; exact Nat.ne_of_lt (blk_lt (g := gb190) (o := .cells #[.int .i64 x191000_2, .int .i64 ((rd_T62 l0 x12_1).f1)] 62 (0, 0)) (by (with_reducible repeat (first | refine blk_drewN ?_ _ | refine blk_drew ?_ | refine blk_alloc ?_ _)); exact BK190.out)) : gb190 ≠ gb195)); have n7_ := Aside0.mk ((by rw [hg]; exact Nat.ne_of_gt (blk_lt (g := gb190) (o := .cells #[.int .i64 x191000_2, .int .i64 ((rd_T62 l0 x12_1).f1)] 62 (0, 0)) (by (with_reducible repeat (first | refine blk_drewN ?_ _ | refine blk_drew ?_ | refine blk_alloc ?_ _)); exact BK190.out)) : gb195 ≠ gb190)); clear HO_5; clear BK190; clear HB; have HO_5 := n0_; have BK190 := n1_; have HB := n2_; have BK195 := n3_; have GW195 := n4_; have GE195 := n5_; have NB190_195 := n6_; have NB195_190 := n7_; clear n0_ n1_ n2_ n3_ n4_ n5_ n6_ n7_; clear hb hbox hg; have hnb13 := NB195_190.out; have hnc13 := NB190_195.out; have hcz14_0 : w12.cell? ⟨gb195, 0, none⟩ = some (.int .i64 0) := (blk_cell BK195.out 0).trans rfl; have hcz14_1 : w12.cell? ⟨gb195, 1, none⟩ = some (.int .i64 0) := (blk_cell BK195.out 1).trans rfl; have hfz14_0 := blk_frozen BK195.out 0; have hfz14_1 := blk_frozen BK195.out 1))
                      (try simp only [Act.put, List.setIfInBounds_toArray, List.set_cons_zero, List.set_cons_succ])
                      go_cut [33] (fun v33 wc => ∃ (kq : Nat) (x33_10 : Bool), v33 = .bool x33_10 ∧ Aside0 (dom_Minus.j2 kq l1 x5_2 l0 (l0.length : Int) x12_1 l1 (l1.length : Int) x18_2 x33_10 x191000_2 ((rd_T62 l0 x12_1).f1) ((rd_T62 l1 x18_2).f0) ((rd_T62 l1 x18_2).f1) = some r) ∧ Aside0 (kq ≤ k2) ∧ Aside0 (Kd.R k62 62 wc w.heap.size (fun k_ => k_ ≠ gb190 ∧ k_ ≠ gb195) u5 x5_2) ∧ Aside0 (wc.heap[gb190]? = some (.cells #[.int .i64 x191000_2, .int .i64 ((rd_T62 l0 x12_1).f1)] 62 (0, 0))) ∧ Aside0 (wc.heap[gb195]? = some (.cells #[.int .i64 ((rd_T62 l1 x18_2).f0), .int .i64 ((rd_T62 l1 x18_2).f1)] 62 (0, 0))) ∧ Aside0 (Below w.heap.size w wc))
                      case first =>
                        have H := HC11.out
                        clear HC11
                        by_cases c15 : ((rd_T62 l1 x18_2).f1) < x191000_2
                        · rw [if_pos c15] at H
                          have c15b0 : decide (((rd_T62 l1 x18_2).f1) < x191000_2) = true := decide_eq_true c15
                          clear c15
                          (first | rw [c15b0] | (simp only [i64_w, i32_w]; rw [c15b0]) | skip)
                          have H' := Aside0.mk H
                          clear H
                          have hnb16 := NB195_190.out
                          have hnc16 := NB190_195.out
                          have hcz17_0 : w12.cell? ⟨gb195, 0, none⟩ = some (.int .i64 0) := (blk_cell BK195.out 0).trans rfl
                          have hcz17_1 : w12.cell? ⟨gb195, 1, none⟩ = some (.int .i64 0) := (blk_cell BK195.out 1).trans rfl
                          have hfz17_0 := blk_frozen BK195.out 0
                          have hfz17_1 := blk_frozen BK195.out 1
                          have hcz18_0 : w12.cell? ⟨gb190, 0, none⟩ = some (.int .i64 x191000_2) := (blk_cell BK190.out 0).trans rfl
                          have hcz18_1 : w12.cell? ⟨gb190, 1, none⟩ = some (.int .i64 ((rd_T62 l0 x12_1).f1)) := (blk_cell BK190.out 1).trans rfl
                          have hfz18_0 := blk_frozen BK190.out 0
                          have hfz18_1 := blk_frozen BK190.out 1
                          go_wp2
                          go_meet
                          case rel => exact ⟨_, (true), (by first | rfl | (simp; done) | (simp [*]; done)), H', ⟨by have := HK1.out; have := HK2.out; first | omega | exact Nat.le_refl _⟩, ⟨by (with_reducible repeat (first | apply Kd.R_alloc | apply Kd.R_drewN | apply Kd.R_drew)); exact Kd.R_mono (Kd.R_far (p := ⟨gb195, 1, none⟩) (Kd.R_far (p := ⟨gb195, 0, none⟩) (Kd.R_mono HO_5.out (fun k_ hk => (⟨hk, hk.2⟩ : _ ∧ k_ ≠ gb195))) (fun _ hk => hk.2) (.int .i64 ((rd_T62 l1 x18_2).f0))) (fun _ hk => hk.2) (.int .i64 ((rd_T62 l1 x18_2).f1))) (fun _ hk => ⟨hk.1.1, hk.1.2⟩)⟩, ⟨by (with_reducible repeat (first | refine blk_drewN ?_ _ | refine blk_drew ?_ | refine blk_alloc ?_ _)); refine blk_far ?_ NB190_195.out _; (with_reducible repeat (first | refine blk_drewN ?_ _ | refine blk_drew ?_ | refine blk_alloc ?_ _)); refine blk_far ?_ NB190_195.out _; (with_reducible repeat (first | refine blk_drewN ?_ _ | refine blk_drew ?_ | refine blk_alloc ?_ _)); exact BK190.out⟩, ⟨by (with_reducible repeat (first | refine blk_drewN ?_ _ | refine blk_drew ?_ | refine blk_alloc ?_ _)); refine blk_put (cs := #[.int .i64 ((rd_T62 l1 x18_2).f0), .int .i64 0]) ?_ 1 _ rfl; (with_reducible repeat (first | refine blk_drewN ?_ _ | refine blk_drew ?_ | refine blk_alloc ?_ _)); refine blk_put (cs := #[.int .i64 0, .int .i64 0]) ?_ 0 _ rfl; (with_reducible repeat (first | refine blk_drewN ?_ _ | refine blk_drew ?_ | refine blk_alloc ?_ _)); exact BK195.out⟩, ⟨by repeat (first | (with_reducible first | exact HB.out | apply below_alloc | apply pw_below_drewN | apply below_drew1 | refine below_set ?_ GE190.out | refine below_set ?_ GE195.out) | exact HB.out)⟩⟩
                        · rw [if_neg c15] at H
                          have c15b0 : decide (((rd_T62 l1 x18_2).f1) < x191000_2) = false := decide_eq_false c15
                          clear c15
                          (first | rw [c15b0] | (simp only [i64_w, i32_w]; rw [c15b0]) | skip)
                          have H' := Aside0.mk H
                          clear H
                          have hnb19 := NB195_190.out
                          have hnc19 := NB190_195.out
                          have hcz20_0 : w12.cell? ⟨gb195, 0, none⟩ = some (.int .i64 0) := (blk_cell BK195.out 0).trans rfl
                          have hcz20_1 : w12.cell? ⟨gb195, 1, none⟩ = some (.int .i64 0) := (blk_cell BK195.out 1).trans rfl
                          have hfz20_0 := blk_frozen BK195.out 0
                          have hfz20_1 := blk_frozen BK195.out 1
                          have hcz21_0 : w12.cell? ⟨gb190, 0, none⟩ = some (.int .i64 x191000_2) := (blk_cell BK190.out 0).trans rfl
                          have hcz21_1 : w12.cell? ⟨gb190, 1, none⟩ = some (.int .i64 ((rd_T62 l0 x12_1).f1)) := (blk_cell BK190.out 1).trans rfl
                          have hfz21_0 := blk_frozen BK190.out 0
                          have hfz21_1 := blk_frozen BK190.out 1
                          go_wp2
                          go_meet
                          case rel => exact ⟨_, (decide (((rd_T62 l1 x18_2).f0) > ((rd_T62 l0 x12_1).f1))), (by first | rfl | (simp; done) | (simp [*]; done)), H', ⟨by have := HK1.out; have := HK2.out; first | omega | exact Nat.le_refl _⟩, ⟨by (with_reducible repeat (first | apply Kd.R_alloc | apply Kd.R_drewN | apply Kd.R_drew)); exact Kd.R_mono (Kd.R_far (p := ⟨gb195, 1, none⟩) (Kd.R_far (p := ⟨gb195, 0, none⟩) (Kd.R_mono HO_5.out (fun k_ hk => (⟨hk, hk.2⟩ : _ ∧ k_ ≠ gb195))) (fun _ hk => hk.2) (.int .i64 ((rd_T62 l1 x18_2).f0))) (fun _ hk => hk.2) (.int .i64 ((rd_T62 l1 x18_2).f1))) (fun _ hk => ⟨hk.1.1, hk.1.2⟩)⟩, ⟨by (with_reducible repeat (first | refine blk_drewN ?_ _ | refine blk_drew ?_ | refine blk_alloc ?_ _)); refine blk_far ?_ NB190_195.out _; (with_reducible repeat (first | refine blk_drewN ?_ _ | refine blk_drew ?_ | refine blk_alloc ?_ _)); refine blk_far ?_ NB190_195.out _; (with_reducible repeat (first | refine blk_drewN ?_ _ | refine blk_drew ?_ | refine blk_alloc ?_ _)); exact BK190.out⟩, ⟨by (with_reducible repeat (first | refine blk_drewN ?_ _ | refine blk_drew ?_ | refine blk_alloc ?_ _)); refine blk_put (cs := #[.int .i64 ((rd_T62 l1 x18_2).f0), .int .i64 0]) ?_ 1 _ rfl; (with_reducible repeat (first | refine blk_drewN ?_ _ | refine blk_drew ?_ | refine blk_alloc ?_ _)); refine blk_put (cs := #[.int .i64 0, .int .i64 0]) ?_ 0 _ rfl; (with_reducible repeat (first | refine blk_drewN ?_ _ | refine blk_drew ?_ | refine blk_alloc ?_ _)); exact BK195.out⟩, ⟨by repeat (first | (with_reducible first | exact HB.out | apply below_alloc | apply pw_below_drewN | apply below_drew1 | refine below_set ?_ GE190.out | refine below_set ?_ GE195.out) | exact HB.out)⟩⟩
                      case rest =>
                        clear HC11
                        try clear c1
                        try clear p1
                        try clear q1
                        try clear hx1
                        try clear p2
                        try clear c3
                        try clear c3b0
                        try clear c4
                        try clear c4b0
                        try clear c5
                        try clear c5b0
                        try clear c8
                        try clear c8b0
                        try clear c9
                        try clear c9b0
                        try clear c10
                        try clear c10b0
                        try clear c13
                        try clear c15
                        try clear c15b0
                        try clear c16
                        try clear p18
                        try clear q18
                        try clear hx18
                        try clear c19
                        try clear p19
                        try clear q19
                        try clear hx19
                        try clear hcz14_0
                        try clear hcz14_1
                        try clear hcz17_0
                        try clear hcz17_1
                        try clear hcz18_0
                        try clear hcz18_1
                        try clear hcz20_0
                        try clear hcz20_1
                        try clear hcz21_0
                        try clear hcz21_1
                        try clear hcz7_0
                        try clear hcz7_1
                        try clear hfz14_0
                        try clear hfz14_1
                        try clear hfz17_0
                        try clear hfz17_1
                        try clear hfz18_0
                        try clear hfz18_1
                        try clear hfz20_0
                        try clear hfz20_1
                        try clear hfz21_0
                        try clear hfz21_1
                        try clear hfz7_0
                        try clear hfz7_1
                        try clear hx189_0
                        try clear hx189_1
                        try clear hx194_0
                        try clear hx194_1
                        try clear p1
                        try clear p189
                        try clear p194
                        try clear p2
                        try clear q1
                        try clear q189
                        try clear q194
                        obtain ⟨kq, x33_10, rfl, HA, HJ10, HO_5, BK190, BK195, HB⟩ := hcut
                        cases kq with
                        | zero => exact absurd HA.out (by simp [dom_Minus.j2])
                        | succ kj10 =>
                          have H := HA.out
                          clear HA
                          simp only [dom_Minus.j2] at H
                          by_cases c22 : x33_10 = true
                          · subst c22
                            have H1 : (dom_Minus.l1 kj10 l1 x5_2 l0 (l0.length : Int) x12_1 l1 (l1.length : Int) (wrap64 (x18_2 + 1)) x191000_2 ((rd_T62 l0 x12_1).f1)) = some r := by rw [if_pos rfl] at H; exact H
                            clear H
                            have H := H1
                            clear H1
                            have H' := Aside0.mk H
                            clear H
                            go_wp2
                            go_roundg kj10
                            case measure => have := HK1.out; have := HK2.out; have := HJ10.out; omega
                            case rel => exact ⟨(x5_2), (wrap64 (x18_2 + 1)), (x191000_2), (by first | rfl | (simp; done) | (simp [*]; done)), H', ⟨by have := HK1.out; have := HK2.out; have := HJ10.out; omega⟩, ⟨by (with_reducible repeat (first | apply Kd.R_alloc | apply Kd.R_drewN | apply Kd.R_drew)); exact Kd.R_mono HO_5.out (fun _ hk => hk.1)⟩, ⟨by (with_reducible repeat (first | refine blk_drewN ?_ _ | refine blk_drew ?_ | refine blk_alloc ?_ _)); exact BK190.out⟩, ⟨by repeat (first | (with_reducible first | exact HB.out | apply below_alloc | apply pw_below_drewN | apply below_drew1 | refine below_set ?_ GE190.out | refine below_set ?_ GE195.out) | exact HB.out)⟩⟩
                          · replace c22 := Bool.eq_false_iff.mpr c22
                            subst c22
                            have H1 : (if ((rd_T62 l1 x18_2).f0) > x191000_2 then (if x5_2.length < 8796093022208 then (dom_Minus.l1 kj10 l1 (x5_2 ++ [(⟨x191000_2, wrap64 (((rd_T62 l1 x18_2).f0) - 1)⟩ : S62)]) l0 (l0.length : Int) x12_1 l1 (l1.length : Int) (wrap64 (x18_2 + 1)) (wrap64 (((rd_T62 l1 x18_2).f1) + 1)) ((rd_T62 l0 x12_1).f1)) else (none)) else (dom_Minus.l1 kj10 l1 x5_2 l0 (l0.length : Int) x12_1 l1 (l1.length : Int) (wrap64 (x18_2 + 1)) (wrap64 (((rd_T62 l1 x18_2).f1) + 1)) ((rd_T62 l0 x12_1).f1))) = some r := by rw [if_neg (show ¬ (false = true) by decide)] at H; exact H
                            clear H
                            have H := H1
                            clear H1
                            by_cases c23 : ((rd_T62 l1 x18_2).f0) > x191000_2
                            · rw [if_pos c23] at H
                              have c23b0 : decide (x191000_2 < ((rd_T62 l1 x18_2).f0)) = true := decide_eq_true c23
                              clear c23
                              by_cases c24 : x5_2.length < 8796093022208
                              · rw [if_pos c24] at H
                                have LMc24 := Aside0.mk c24
                                clear c24
                                obtain ⟨y196, hy196⟩ : ∃ y_ : List (S62), y_ = (x5_2 ++ [(⟨x191000_2, wrap64 (((rd_T62 l1 x18_2).f0) - 1)⟩ : S62)]) := ⟨_, rfl⟩
                                replace H : (dom_Minus.l1 kj10 l1 y196 l0 (l0.length : Int) x12_1 l1 (l1.length : Int) (wrap64 (x18_2 + 1)) (wrap64 (((rd_T62 l1 x18_2).f1) + 1)) ((rd_T62 l0 x12_1).f1)) = some r := by first | (rw [hy196]; with_reducible exact H) | (have H2_ := (Option.bind_some _ _).symm.trans H; rw [hy196]; with_reducible exact H2_) | (have H2_ := (Option.bind_some _ _).symm.trans H; with_reducible exact H2_) | with_reducible exact H | (rw [hy196]; exact H) | exact H
                                have Ny196 := Aside0.mk hy196
                                clear hy196
                                have H' := Aside0.mk H
                                clear H
                                have hnb25 := NB195_190.out
                                have hnc25 := NB190_195.out
                                have hcz26_0 : wc.cell? ⟨gb195, 0, none⟩ = some (.int .i64 ((rd_T62 l1 x18_2).f0)) := (blk_cell BK195.out 0).trans rfl
                                have hcz26_1 : wc.cell? ⟨gb195, 1, none⟩ = some (.int .i64 ((rd_T62 l1 x18_2).f1)) := (blk_cell BK195.out 1).trans rfl
                                have hfz26_0 := blk_frozen BK195.out 0
                                have hfz26_1 := blk_frozen BK195.out 1
                                have hcz27_0 : wc.cell? ⟨gb190, 0, none⟩ = some (.int .i64 x191000_2) := (blk_cell BK190.out 0).trans rfl
                                have hcz27_1 : wc.cell? ⟨gb190, 1, none⟩ = some (.int .i64 ((rd_T62 l0 x12_1).f1)) := (blk_cell BK190.out 1).trans rfl
                                have hfz27_0 := blk_frozen BK190.out 0
                                have hfz27_1 := blk_frozen BK190.out 1
                                go_wp2_with (first | ((with_reducible refine gate_builtin (b := .append) (xs := #[.tmp 39, .tmp 46]) rfl ?_); at_builtin; refine Kd.R_append k62 (w0 := w) w.heap.size rfl (.tmp 39) (.tmp 46) 31 62 (.agg #[(.int .i64 0), (.int .i64 0)]) 16 rfl Try.underlying31 info62 rfl (by decide) (by omega) u5 x5_2 (⟨x191000_2, wrap64 (((rd_T62 l1 x18_2).f0) - 1)⟩ : S62) [.int .i64 x191000_2, .int .i64 (wrap64 (((rd_T62 l1 x18_2).f0) - 1))] (fun k_ => k_ ≠ gb190 ∧ k_ ≠ gb195) (fun _ => False) rfl rfl ?aP (fun _ hk => hk.elim) ?aF ?aO ?aB ?aS ?aL ?_; (case aP => exact k62_mkM _ _ _ (⟨x191000_2, wrap64 (((rd_T62 l1 x18_2).f0) - 1)⟩ : S62)); (case aB => exact (by repeat (first | (with_reducible first | exact HB.out | apply below_alloc | apply pw_below_drewN | apply below_drew1 | refine below_set ?_ GE190.out | refine below_set ?_ GE195.out) | exact HB.out))); (case aF => exact (fun k_ hk => ⟨Kd.freshB (g := gb190) (o := .cells #[.int .i64 x191000_2, .int .i64 ((rd_T62 l0 x12_1).f1)] 62 (0, 0)) (by (with_reducible repeat (first | refine blk_drewN ?_ _ | refine blk_drew ?_ | refine blk_alloc ?_ _)); exact BK190.out) k_ hk, Kd.freshB (g := gb195) (o := .cells #[.int .i64 ((rd_T62 l1 x18_2).f0), .int .i64 ((rd_T62 l1 x18_2).f1)] 62 (0, 0)) (by (with_reducible repeat (first | refine blk_drewN ?_ _ | refine blk_drew ?_ | refine blk_alloc ?_ _)); exact BK195.out) k_ hk⟩)); (case aO => exact (by (with_reducible repeat (first | apply Kd.R_alloc | apply Kd.R_drewN | apply Kd.R_drew)); exact HO_5.out)); (case aS => exact (below_size (by repeat (first | (with_reducible first | exact HB.out | apply below_alloc | apply pw_below_drewN | apply below_drew1 | refine below_set ?_ GE190.out | refine below_set ?_ GE195.out) | exact HB.out)))); (case aL => have := LMc24.out; omega); intro v197 w28 ho hb hg hat; rw [← Ny196.out] at ho; have n0_ := Aside0.mk (blk_grown (g := gb190) (o := .cells #[.int .i64 x191000_2, .int .i64 ((rd_T62 l0 x12_1).f1)] 62 (0, 0)) (by (with_reducible repeat (first | refine blk_drewN ?_ _ | refine blk_drew ?_ | refine blk_alloc ?_ _)); exact BK190.out) hg (Kd.R_away HO_5.out (fun _ hk => hk.1))); have n1_ := Aside0.mk (blk_grown (g := gb195) (o := .cells #[.int .i64 ((rd_T62 l1 x18_2).f0), .int .i64 ((rd_T62 l1 x18_2).f1)] 62 (0, 0)) (by (with_reducible repeat (first | refine blk_drewN ?_ _ | refine blk_drew ?_ | refine blk_alloc ?_ _)); exact BK195.out) hg (Kd.R_away HO_5.out (fun _ hk => hk.2))); have n2_ := Aside0.mk (hb); have n3_ := Aside0.mk (ho); clear BK190; clear BK195; clear HB; clear HO_5; have BK190 := n0_; have BK195 := n1_; have HB := n2_; have HO198 := n3_; clear n0_ n1_ n2_ n3_; clear ho hb hg hat; have hcz29_0 : w28.cell? ⟨gb195, 0, none⟩ = some (.int .i64 ((rd_T62 l1 x18_2).f0)) := (blk_cell BK195.out 0).trans rfl; have hcz29_1 : w28.cell? ⟨gb195, 1, none⟩ = some (.int .i64 ((rd_T62 l1 x18_2).f1)) := (blk_cell BK195.out 1).trans rfl; have hfz29_0 := blk_frozen BK195.out 0; have hfz29_1 := blk_frozen BK195.out 1; have hcz30_0 : w28.cell? ⟨gb190, 0, none⟩ = some (.int .i64 x191000_2) := (blk_cell BK190.out 0).trans rfl; have hcz30_1 : w28.cell? ⟨gb190, 1, none⟩ = some (.int .i64 ((rd_T62 l0 x12_1).f1)) := (blk_cell BK190.out 1).trans rfl; have hfz30_0 := blk_frozen BK190.out 0; have hfz30_1 := blk_frozen BK190.out 1))
                                go_roundg kj10
                                case measure => have := HK1.out; have := HK2.out; have := HJ10.out; omega
                                case rel => exact ⟨(y196), (wrap64 (x18_2 + 1)), (wrap64 (((rd_T62 l1 x18_2).f1) + 1)), (by first | rfl | (simp; done) | (simp [*]; done)), H', ⟨by have := HK1.out; have := HK2.out; have := HJ10.out; omega⟩, ⟨by (with_reducible repeat (first | apply Kd.R_alloc | apply Kd.R_drewN | apply Kd.R_drew)); exact Kd.R_mono (Kd.R_far (p := ⟨gb190, 0, none⟩) (Kd.R_mono HO198.out (fun k_ hk => (⟨hk, hk.1⟩ : _ ∧ k_ ≠ gb190))) (fun _ hk => hk.2) (.int .i64 (wrap64 (((rd_T62 l1 x18_2).f1) + 1)))) (fun _ hk => hk.1.1)⟩, ⟨by (with_reducible repeat (first | refine blk_drewN ?_ _ | refine blk_drew ?_ | refine blk_alloc ?_ _)); refine blk_put (cs := #[.int .i64 x191000_2, .int .i64 ((rd_T62 l0 x12_1).f1)]) ?_ 0 _ rfl; (with_reducible repeat (first | refine blk_drewN ?_ _ | refine blk_drew ?_ | refine blk_alloc ?_ _)); exact BK190.out⟩, ⟨by repeat (first | (with_reducible first | exact HB.out | apply below_alloc | apply pw_below_drewN | apply below_drew1 | refine below_set ?_ GE190.out | refine below_set ?_ GE195.out) | exact HB.out)⟩⟩
                              · rw [if_neg c24] at H
                                exact absurd H (by simp)
                            · rw [if_neg c23] at H
                              have c23b0 : decide (x191000_2 < ((rd_T62 l1 x18_2).f0)) = false := decide_eq_false c23
                              clear c23
                              have H' := Aside0.mk H
                              clear H
                              have hnb31 := NB195_190.out
                              have hnc31 := NB190_195.out
                              have hcz32_0 : wc.cell? ⟨gb195, 0, none⟩ = some (.int .i64 ((rd_T62 l1 x18_2).f0)) := (blk_cell BK195.out 0).trans rfl
                              have hcz32_1 : wc.cell? ⟨gb195, 1, none⟩ = some (.int .i64 ((rd_T62 l1 x18_2).f1)) := (blk_cell BK195.out 1).trans rfl
                              have hfz32_0 := blk_frozen BK195.out 0
                              have hfz32_1 := blk_frozen BK195.out 1
                              have hcz33_0 : wc.cell? ⟨gb190, 0, none⟩ = some (.int .i64 x191000_2) := (blk_cell BK190.out 0).trans rfl
                              have hcz33_1 : wc.cell? ⟨gb190, 1, none⟩ = some (.int .i64 ((rd_T62 l0 x12_1).f1)) := (blk_cell BK190.out 1).trans rfl
                              have hfz33_0 := blk_frozen BK190.out 0
                              have hfz33_1 := blk_frozen BK190.out 1
                              go_wp2
                              go_roundg kj10
                              case measure => have := HK1.out; have := HK2.out; have := HJ10.out; omega
                              case rel => exact ⟨(x5_2), (wrap64 (x18_2 + 1)), (wrap64 (((rd_T62 l1 x18_2).f1) + 1)), (by first | rfl | (simp; done) | (simp [*]; done)), H', ⟨by have := HK1.out; have := HK2.out; have := HJ10.out; omega⟩, ⟨by (with_reducible repeat (first | apply Kd.R_alloc | apply Kd.R_drewN | apply Kd.R_drew)); exact Kd.R_mono (Kd.R_far (p := ⟨gb190, 0, none⟩) (Kd.R_mono HO_5.out (fun k_ hk => (⟨hk, hk.1⟩ : _ ∧ k_ ≠ gb190))) (fun _ hk => hk.2) (.int .i64 (wrap64 (((rd_T62 l1 x18_2).f1) + 1)))) (fun _ hk => hk.1.1)⟩, ⟨by (with_reducible repeat (first | refine blk_drewN ?_ _ | refine blk_drew ?_ | refine blk_alloc ?_ _)); refine blk_put (cs := #[.int .i64 x191000_2, .int .i64 ((rd_T62 l0 x12_1).f1)]) ?_ 0 _ rfl; (with_reducible repeat (first | refine blk_drewN ?_ _ | refine blk_drew ?_ | refine blk_alloc ?_ _)); exact BK190.out⟩, ⟨by repeat (first | (with_reducible first | exact HB.out | apply below_alloc | apply pw_below_drewN | apply below_drew1 | refine below_set ?_ GE190.out | refine below_set ?_ GE195.out) | exact HB.out)⟩⟩
                    · rw [if_neg c10] at H
                      exact absurd H (by simp)
                  · rw [if_neg c9] at H
                    exact absurd H (by simp)
                · rw [if_neg c8] at H
                  have c8b0 : decide (x18_2 < (l1.length : Int)) = false := decide_eq_false c8
                  clear c8
                  by_cases c34 : x191000_2 ≤ ((rd_T62 l0 x12_1).f1)
                  · rw [if_pos c34] at H
                    have c34b0 : decide (x191000_2 ≤ ((rd_T62 l0 x12_1).f1)) = true := decide_eq_true c34
                    clear c34
                    by_cases c35 : x5_2.length < 8796093022208
                    · rw [if_pos c35] at H
                      have LMc35 := Aside0.mk c35
                      clear c35
                      obtain ⟨y191, hy191⟩ : ∃ y_ : List (S62), y_ = (x5_2 ++ [(⟨x191000_2, ((rd_T62 l0 x12_1).f1)⟩ : S62)]) := ⟨_, rfl⟩
                      replace H : (dom_Minus.l0 k2 l1 y191 l0 (l0.length : Int) (wrap64 (x12_1 + 1))) = some r := by first | (rw [hy191]; with_reducible exact H) | (have H2_ := (Option.bind_some _ _).symm.trans H; rw [hy191]; with_reducible exact H2_) | (have H2_ := (Option.bind_some _ _).symm.trans H; with_reducible exact H2_) | with_reducible exact H | (rw [hy191]; exact H) | exact H
                      have Ny191 := Aside0.mk hy191
                      clear hy191
                      have H' := Aside0.mk H
                      clear H
                      have hcz36_0 : wr.cell? ⟨gb190, 0, none⟩ = some (.int .i64 x191000_2) := (blk_cell BK190.out 0).trans rfl
                      have hcz36_1 : wr.cell? ⟨gb190, 1, none⟩ = some (.int .i64 ((rd_T62 l0 x12_1).f1)) := (blk_cell BK190.out 1).trans rfl
                      have hfz36_0 := blk_frozen BK190.out 0
                      have hfz36_1 := blk_frozen BK190.out 1
                      go_wp2_with (first | ((with_reducible refine gate_builtin (b := .append) (xs := #[.tmp 58, .tmp 60]) rfl ?_); at_builtin; refine Kd.R_append k62 (w0 := w) w.heap.size rfl (.tmp 58) (.tmp 60) 31 62 (.agg #[(.int .i64 0), (.int .i64 0)]) 16 rfl Try.underlying31 info62 rfl (by decide) (by omega) u5 x5_2 (⟨x191000_2, ((rd_T62 l0 x12_1).f1)⟩ : S62) [.int .i64 x191000_2, .int .i64 ((rd_T62 l0 x12_1).f1)] (fun k_ => k_ ≠ gb190) (fun _ => False) rfl rfl ?aP (fun _ hk => hk.elim) ?aF ?aO ?aB ?aS ?aL ?_; (case aP => exact k62_mkM _ _ _ (⟨x191000_2, ((rd_T62 l0 x12_1).f1)⟩ : S62)); (case aB => exact (by repeat (first | (with_reducible first | exact HB.out | apply below_alloc | apply pw_below_drewN | apply below_drew1 | refine below_set ?_ GE190.out) | exact HB.out))); (case aF => exact (fun k_ hk => Kd.freshB (g := gb190) (o := .cells #[.int .i64 x191000_2, .int .i64 ((rd_T62 l0 x12_1).f1)] 62 (0, 0)) (by (with_reducible repeat (first | refine blk_drewN ?_ _ | refine blk_drew ?_ | refine blk_alloc ?_ _)); exact BK190.out) k_ hk)); (case aO => exact (by (with_reducible repeat (first | apply Kd.R_alloc | apply Kd.R_drewN | apply Kd.R_drew)); exact HO_5.out)); (case aS => exact (below_size (by repeat (first | (with_reducible first | exact HB.out | apply below_alloc | apply pw_below_drewN | apply below_drew1 | refine below_set ?_ GE190.out) | exact HB.out)))); (case aL => have := LMc35.out; omega); intro v192 w37 ho hb hg hat; rw [← Ny191.out] at ho; have n0_ := Aside0.mk (blk_grown (g := gb190) (o := .cells #[.int .i64 x191000_2, .int .i64 ((rd_T62 l0 x12_1).f1)] 62 (0, 0)) (by (with_reducible repeat (first | refine blk_drewN ?_ _ | refine blk_drew ?_ | refine blk_alloc ?_ _)); exact BK190.out) hg (Kd.R_away HO_5.out (fun _ hk => hk))); have n1_ := Aside0.mk (hb); have n2_ := Aside0.mk (ho); clear BK190; clear HB; clear HO_5; have BK190 := n0_; have HB := n1_; have HO193 := n2_; clear n0_ n1_ n2_; clear ho hb hg hat))
                      go_roundg k2
                      case measure => have := HK1.out; have := HK2.out; omega
                      case rel => exact ⟨(y191), (wrap64 (x12_1 + 1)), (by first | rfl | (simp; done) | (simp [*]; done)), H', ⟨by have := HK1.out; have := HK2.out; omega⟩, ⟨by (with_reducible repeat (first | apply Kd.R_alloc | apply Kd.R_drewN | apply Kd.R_drew)); exact Kd.R_mono HO193.out (fun _ hk => trivial)⟩, ⟨by repeat (first | (with_reducible first | exact HB.out | apply below_alloc | apply pw_below_drewN | apply below_drew1 | refine below_set ?_ GE190.out) | exact HB.out)⟩⟩
                    · rw [if_neg c35] at H
                      exact absurd H (by simp)
                  · rw [if_neg c34] at H
                    have c34b0 : decide (x191000_2 ≤ ((rd_T62 l0 x12_1).f1)) = false := decide_eq_false c34
                    clear c34
                    have H' := Aside0.mk H
                    clear H
                    have hcz38_0 : wr.cell? ⟨gb190, 0, none⟩ = some (.int .i64 x191000_2) := (blk_cell BK190.out 0).trans rfl
                    have hcz38_1 : wr.cell? ⟨gb190, 1, none⟩ = some (.int .i64 ((rd_T62 l0 x12_1).f1)) := (blk_cell BK190.out 1).trans rfl
                    have hfz38_0 := blk_frozen BK190.out 0
                    have hfz38_1 := blk_frozen BK190.out 1
                    go_wp2
                    go_roundg k2
                    case measure => have := HK1.out; have := HK2.out; omega
                    case rel => exact ⟨(x5_2), (wrap64 (x12_1 + 1)), (by first | rfl | (simp; done) | (simp [*]; done)), H', ⟨by have := HK1.out; have := HK2.out; omega⟩, ⟨by (with_reducible repeat (first | apply Kd.R_alloc | apply Kd.R_drewN | apply Kd.R_drew)); exact Kd.R_mono HO_5.out (fun _ hk => trivial)⟩, ⟨by repeat (first | (with_reducible first | exact HB.out | apply below_alloc | apply pw_below_drewN | apply below_drew1 | refine below_set ?_ GE190.out) | exact HB.out)⟩⟩
          · rw [if_neg c5] at H
            exact absurd H (by simp)
        · rw [if_neg c4] at H
          exact absurd H (by simp)
      · rw [if_neg c3] at H
        have c3b0 : decide (x12_1 < (l0.length : Int)) = false := decide_eq_false c3
        clear c3
        obtain rfl := Option.some.inj H
        go_wp2
        go_ret
        exact ⟨_, by first | rfl | (simp [errW_none, errW_some] <;> rfl) | (simp [*, errW_none, errW_some] <;> rfl), by (with_reducible repeat (first | apply Kd.R_alloc | apply Kd.R_drewN | apply Kd.R_drew)); exact HO_5.out, by repeat (first | (with_reducible first | exact HB.out | apply below_alloc | apply pw_below_drewN | apply below_drew1) | exact HB.out)⟩

/-! ### api_Range_47: function 47 -/
def api_Range_47.l0 : Nat → List (S62) → List (S62) → Int → Int → Option (Bool)
  | 0, _, _, _, _ => none
  | k + 1, x0, x1, x12, x13 => if x13 < x12 then (if 0 ≤ x13 then (if x13 < (x0.length : Int) then (if x13 < (x1.length : Int) then (if (!(((rd_T62 x0 x13).f0) == ((rd_T62 x1 x13).f0)) || (!(((rd_T62 x0 x13).f1) == ((rd_T62 x1 x13).f1)))) = true then (some false) else (api_Range_47.l0 k x0 x1 x12 (wrap64 (x13 + 1)))) else (none)) else (none)) else (none)) else (some true)
def api_Range_47.f (k : Nat) (l0 : List (S62)) (l1 : List (S62)) : Option (Bool) := if (l0.length : Int) = (l1.length : Int) then (api_Range_47.l0 k l0 l1 (l0.length : Int) 0) else (some false)
theorem api_Range_47.mono_l : ∀ k, (∀ y0 y1 y2 y3, LeO (api_Range_47.l0 k y0 y1 y2 y3) (api_Range_47.l0 (k + 1) y0 y1 y2 y3))
  | 0 => fun _ _ _ _ r h => by simp [api_Range_47.l0] at h
  | k + 1 => by
    have ih0 := api_Range_47.mono_l k
    · intro y0 y1 y2 y3
      unfold api_Range_47.l0
      repeat' first
      | (with_reducible exact ih0 _ _ _ _)
      | (with_reducible exact LeO.refl _)
      | (with_reducible exact LeO.none _)
      | (with_reducible refine LeO.ite ?_ ?_)
      | (with_reducible refine LeO.bind ?_ (fun _ => ?_))
      | exact ih0 _ _ _ _
      | exact LeO.none _
      | refine LeO.ite ?_ ?_
      | refine LeO.bind ?_ (fun _ => ?_)
theorem api_Range_47.mono : ∀ a0 a1 k, LeO (api_Range_47.f k a0 a1) (api_Range_47.f (k + 1) a0 a1) := by
  intro a0 a1 k
  have ih0 := api_Range_47.mono_l k
  unfold api_Range_47.f
  repeat' first
      | (with_reducible exact ih0 _ _ _ _)
      | (with_reducible exact LeO.refl _)
      | (with_reducible exact LeO.none _)
      | (with_reducible refine LeO.ite ?_ ?_)
      | (with_reducible refine LeO.bind ?_ (fun _ => ?_))
      | exact ih0 _ _ _ _
      | exact LeO.none _
      | refine LeO.ite ?_ ?_
      | refine LeO.bind ?_ (fun _ => ?_)
set_option maxHeartbeats 8000000 in
set_option maxRecDepth 100000 in
theorem api_Range_47.calls (k : Nat) (A0 : Option Addr) (c0 : Nat) (l0 : List (S62)) (A1 : Option Addr) (c1 : Nat) (l1 : List (S62)) (r : Bool) (w : World) (hr0 : Kd.C k62 w A0 l0.length l0) (hc0 : l0.length ≤ c0) (hr1 : Kd.C k62 w A1 l1.length l1) (hc1 : l1.length ≤ c1) (h : api_Range_47.f k l0 l1 = some r) :
    Calls Try.prog 47 #[.slice A0 l0.length c0, .slice A1 l1.length c1] w fun e w' => e = .returned (.bool r) ∧ Drawn0 w w' := by
  have hu62 := Try.underlying62
  have HR0 := Aside0.mk hr0
  have HC0 := Aside0.mk hc0
  clear hr0 hc0
  have HR1 := Aside0.mk hr1
  have HC1 := Aside0.mk hc1
  clear hr1 hc1
  have H : (if (l0.length : Int) = (l1.length : Int) then (api_Range_47.l0 k l0 l1 (l0.length : Int) 0) else (some false)) = some r := h
  clear h
  by_cases c3 : (l0.length : Int) = (l1.length : Int)
  · rw [if_pos c3] at H
    have c3b0 : ((l0.length : Int) == (l1.length : Int)) = true := beq_iff_eq.mpr c3
    have c3b1 : ((l0.length : Int) != (l1.length : Int)) = false := bne_eq_false_iff_eq.mpr c3
    have c3b2 : (l0.length == l1.length) = true := by first | simpa using c3 | (simp at c3 ⊢; omega)
    clear c3
    have H' := Aside0.mk H
    clear H
    go_enter Try.func47, Try.ntmps47
    go_wp2
    repeat (go_quiet (fail); try go_wp2)
    go_loopg [13] k (fun kq v13 w' => ∃ (x13_1 : Int), v13 = .int .i64 x13_1 ∧ Aside0 (api_Range_47.l0 kq l0 l1 (l0.length : Int) x13_1 = some r) ∧ Aside0 (kq ≤ k) ∧ Drawn0 w w')
    case atStart => exact ⟨(0), (by first | rfl | (simp; done) | (simp [*]; done)), H', ⟨Nat.le_refl _⟩, by repeat (first | exact Drawn0.refl _ | apply Drawn0.step)⟩
    case round =>
      clear H'
      try clear c1
      try clear p2
      try clear c3
      try clear c3b0
      try clear c3b1
      try clear c3b2
      obtain ⟨x13_1, rfl, HA, HK1, ⟨m1, rfl⟩⟩ := hrel
      cases gk with
      | zero => exact absurd HA.out (by simp [api_Range_47.l0])
      | succ k1 =>
        have H := HA.out
        clear HA
        simp only [api_Range_47.l0] at H
        by_cases c4 : x13_1 < (l0.length : Int)
        · rw [if_pos c4] at H
          have c4b0 : decide (x13_1 < (l0.length : Int)) = true := decide_eq_true c4
          clear c4
          by_cases c5 : 0 ≤ x13_1
          · rw [if_pos c5] at H
            have c5b0 : decide (0 ≤ x13_1) = true := decide_eq_true c5
            clear c5
            by_cases c6 : x13_1 < (l0.length : Int)
            · rw [if_pos c6] at H
              have c6b0 : decide (x13_1 < (l0.length : Int)) = true := decide_eq_true c6
              clear c6
              by_cases c7 : x13_1 < (l1.length : Int)
              · rw [if_pos c7] at H
                have c7b0 : decide (x13_1 < (l1.length : Int)) = true := decide_eq_true c7
                clear c7
                by_cases c8 : (!(((rd_T62 l0 x13_1).f0) == ((rd_T62 l1 x13_1).f0)) || (!(((rd_T62 l0 x13_1).f1) == ((rd_T62 l1 x13_1).f1)))) = true
                · rw [if_pos c8] at H
                  have c8b0 : (!(((rd_T62 l0 x13_1).f0) == ((rd_T62 l1 x13_1).f0)) || (!(((rd_T62 l0 x13_1).f1) == ((rd_T62 l1 x13_1).f1)))) = true := c8
                  clear c8
                  obtain rfl := Option.some.inj H
                  have p199 : 0 ≤ (x13_1 : Int) := of_decide_eq_true (by first | (with_reducible assumption) | assumption)
                  have q199 : x13_1 < (l0.length : Int) := of_decide_eq_true (by first | (with_reducible assumption) | assumption)
                  obtain ⟨ad199, e199, hx199_0, hx199_1⟩ := at_T62 HR0.out x13_1 p199 q199
                  cases e199
                  replace p199 := eq_true p199
                  replace q199 := eq_true q199
                  have p200 : 0 ≤ (x13_1 : Int) := of_decide_eq_true (by first | (with_reducible assumption) | assumption)
                  have q200 : x13_1 < (l1.length : Int) := of_decide_eq_true (by first | (with_reducible assumption) | assumption)
                  obtain ⟨ad200, e200, hx200_0, hx200_1⟩ := at_T62 HR1.out x13_1 p200 q200
                  cases e200
                  replace p200 := eq_true p200
                  replace q200 := eq_true q200
                  go_wp2
                  repeat (go_quiet (fail); try go_wp2)
                  go_ret
                  exact ⟨by first | rfl | (simp; done) | (simp [*]; done), by repeat (first | exact Drawn0.refl _ | apply Drawn0.step)⟩
                · rw [if_neg c8] at H
                  have c8b0 : (!(((rd_T62 l0 x13_1).f0) == ((rd_T62 l1 x13_1).f0)) || (!(((rd_T62 l0 x13_1).f1) == ((rd_T62 l1 x13_1).f1)))) = false := by simpa using c8
                  clear c8
                  have H' := Aside0.mk H
                  clear H
                  have p199 : 0 ≤ (x13_1 : Int) := of_decide_eq_true (by first | (with_reducible assumption) | assumption)
                  have q199 : x13_1 < (l0.length : Int) := of_decide_eq_true (by first | (with_reducible assumption) | assumption)
                  obtain ⟨ad199, e199, hx199_0, hx199_1⟩ := at_T62 HR0.out x13_1 p199 q199
                  cases e199
                  replace p199 := eq_true p199
                  replace q199 := eq_true q199
                  have p200 : 0 ≤ (x13_1 : Int) := of_decide_eq_true (by first | (with_reducible assumption) | assumption)
                  have q200 : x13_1 < (l1.length : Int) := of_decide_eq_true (by first | (with_reducible assumption) | assumption)
                  obtain ⟨ad200, e200, hx200_0, hx200_1⟩ := at_T62 HR1.out x13_1 p200 q200
                  cases e200
                  replace p200 := eq_true p200
                  replace q200 := eq_true q200
                  go_wp2
                  repeat (go_quiet (fail); try go_wp2)
                  go_roundg k1
                  case measure => have := HK1.out; omega
                  case rel => exact ⟨(wrap64 (x13_1 + 1)), (by first | rfl | (simp; done) | (simp [*]; done)), H', ⟨by have := HK1.out; omega⟩, by repeat (first | exact Drawn0.refl _ | apply Drawn0.step)⟩
              · rw [if_neg c7] at H
                exact absurd H (by simp)
            · rw [if_neg c6] at H
              exact absurd H (by simp)
          · rw [if_neg c5] at H
            exact absurd H (by simp)
        · rw [if_neg c4] at H
          have c4b0 : decide (x13_1 < (l0.length : Int)) = false := decide_eq_false c4
          clear c4
          obtain rfl := Option.some.inj H
          go_wp2
          repeat (go_quiet (fail); try go_wp2)
          go_ret
          exact ⟨by first | rfl | (simp; done) | (simp [*]; done), by repeat (first | exact Drawn0.refl _ | apply Drawn0.step)⟩
  · rw [if_neg c3] at H
    have c3b0 : ((l0.length : Int) == (l1.length : Int)) = false := beq_eq_false_iff_ne.mpr c3
    have c3b1 : ((l0.length : Int) != (l1.length : Int)) = true := bne_iff_ne.mpr c3
    have c3b2 : (l0.length == l1.length) = false := by first | simpa using c3 | (simp at c3 ⊢; omega)
    obtain rfl := Option.some.inj H
    go_enter Try.func47, Try.ntmps47
    go_wp2
    repeat (go_quiet (fail); try go_wp2)
    go_ret
    exact ⟨by first | rfl | (simp; done) | (simp [*]; done), by repeat (first | exact Drawn0.refl _ | apply Drawn0.step)⟩

/-! ### dom_Same: function 36 -/
def dom_Same.f (k : Nat) (l0 : List (S62)) (l1 : List (S62)) : Option (Bool) := (api_Range_47.f k l0 l1).bind fun t201 => (some t201)
theorem dom_Same.mono : ∀ a0 a1 k, LeO (dom_Same.f k a0 a1) (dom_Same.f (k + 1) a0 a1) := by
  intro a0 a1 k
  unfold dom_Same.f
  repeat' first
      | (with_reducible exact api_Range_47.mono _ _ _)
      | (with_reducible exact LeO.refl _)
      | (with_reducible exact LeO.none _)
      | (with_reducible refine LeO.ite ?_ ?_)
      | (with_reducible refine LeO.bind ?_ (fun _ => ?_))
      | exact api_Range_47.mono _ _ _
      | exact LeO.none _
      | refine LeO.ite ?_ ?_
      | refine LeO.bind ?_ (fun _ => ?_)
set_option maxHeartbeats 8000000 in
set_option maxRecDepth 100000 in
theorem dom_Same.calls (k : Nat) (A0 : Option Addr) (c0 : Nat) (l0 : List (S62)) (A1 : Option Addr) (c1 : Nat) (l1 : List (S62)) (r : Bool) (w : World) (hr0 : Kd.C k62 w A0 l0.length l0) (hc0 : l0.length ≤ c0) (hr1 : Kd.C k62 w A1 l1.length l1) (hc1 : l1.length ≤ c1) (h : dom_Same.f k l0 l1 = some r) :
    Calls Try.prog 36 #[.slice A0 l0.length c0, .slice A1 l1.length c1] w fun e w' => e = .returned (.bool r) ∧ Drawn0 w w' := by
  have HR0 := Aside0.mk hr0
  have HC0 := Aside0.mk hc0
  clear hr0 hc0
  have HR1 := Aside0.mk hr1
  have HC1 := Aside0.mk hc1
  clear hr1 hc1
  have H : ((api_Range_47.f k l0 l1).bind fun t201 => (some t201)) = some r := h
  clear h
  replace H := Option.bind_eq_some_iff.mp H
  obtain ⟨t201, A30, H⟩ := H
  replace H : (some t201) = some r := H
  have A3 := Aside0.mk A30
  clear A30
  obtain rfl := Option.some.inj H
  go_enter Try.func36, Try.ntmps36
  go_wp2_with (first | ((with_reducible refine gate_callee (f := 47) rfl ?_); refine goesL_ (some 7) rfl rfl Try.func47 (by kernel_rfl) rfl #[.slice A0 l0.length c0, .slice A1 l1.length c1] rfl (by (try simp only [List.map_toArray, List.map_cons, List.map_nil]); first | done | rfl | (simp only [List.length_drop, List.length_take]; rfl)) ?_; (with_reducible refine (api_Range_47.calls k _ _ l0 _ _ l1 t201 _ ?side1 ?side2 ?side3 ?side4 A3.out).mono ?_); (case side1 => repeat (first | exact HR0.out | (with_reducible refine Kd.C_alloc ?_ _) | (with_reducible refine Kd.C_drewN ?_ _) | (with_reducible refine Kd.C_drew ?_))); (case side2 => exact HC0.out); (case side3 => repeat (first | exact HR1.out | (with_reducible refine Kd.C_alloc ?_ _) | (with_reducible refine Kd.C_drewN ?_ _) | (with_reducible refine Kd.C_drew ?_))); (case side4 => exact HC1.out); rintro e w' ⟨rfl, ⟨nd, rfl⟩⟩; refine ⟨_, rfl, ?_⟩))
  go_ret
  exact ⟨by first | rfl | (simp; done) | (simp [*]; done), by repeat (first | exact Drawn0.refl _ | apply Drawn0.step)⟩

-- NOT PRINTED: function 14 (trail_Store_Set)

end Go.Proofs.Ytcjachhdoogbaaa.PT
