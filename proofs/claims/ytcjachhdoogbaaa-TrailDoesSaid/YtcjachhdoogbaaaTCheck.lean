/- The document's Check (41): it answers as Check does. No conditions but the length's bound. -/
import Derived.Test.YtcjachhdoogbaaaTLaws
set_option linter.unusedVariables false
set_option linter.unusedSimpArgs false
namespace Go.Proofs.Ytcjachhdoogbaaa.PT
open Go.RowKit Go.Proofs.YtcjachhdoogbaaaW.PrintWords Go.Proofs.YtcjachhdoogbaaaW.PrintLast Go.Proofs.YtcjachhdoogbaaaW.PrintMore
theorem cnt_pre (l : List S62) : ∀ i, i ≤ l.length → (∀ t, t < i → RightAt l t) → 0 ≤ cnt (l.take i) ∧ cnt (l.take i) ≤ 2097153 * i := by
  intro i
  induction i with
  | zero => intro _ _; simp [cnt]
  | succ i ih =>
    intro h hr
    have h1 := ih (by omega) (fun t ht => hr t (by omega))
    have h2 := hr i (by omega)
    rw [← take_snoc (rd62_get l i (by omega)), cnt_app]
    have e : cnt [rd_T62 l i] = (rd_T62 l i).f1 - (rd_T62 l i).f0 + 1 := by simp [cnt]
    rw [e]
    have a := h2.1
    have b := h2.2.1
    have c := h2.2.2.1
    unfold Vl at a b
    omega
theorem cnt_next (l : List S62) (i : Nat) (hi : i < l.length) (hl : l.length ≤ 1000000) (hr : ∀ t, t < i + 1 → RightAt l t) : wrap64 (cnt (l.take i) + wrap64 (wrap64 ((rd_T62 l i).f1 - (rd_T62 l i).f0) + 1)) = cnt (l.take (i + 1)) := by
  have hc := cnt_pre l i (by omega) (fun t ht => hr t (by omega))
  obtain ⟨hA, hB, hC, _⟩ := hr i (by omega)
  unfold Vl at hA hB
  have hs : cnt (l.take (i + 1)) = cnt (l.take i) + ((rd_T62 l i).f1 - (rd_T62 l i).f0 + 1) := by
    rw [← take_snoc (rd62_get l i hi), cnt_app]; simp [cnt]
  rw [wrap_id ((rd_T62 l i).f1 - (rd_T62 l i).f0) (by omega), wrap_id ((rd_T62 l i).f1 - (rd_T62 l i).f0 + 1) (by omega), wrap_id (cnt (l.take i) + ((rd_T62 l i).f1 - (rd_T62 l i).f0 + 1)) (by omega), ← hs]
theorem chk_no (l : List S62) (i : Nat) (hi : i < l.length) (h : ¬ RightAt l i) : chk l = 20 := by unfold chk; rw [if_neg (fun hh => h (hh i hi))]
theorem v_calls (v : Int) (w : World) : Calls Try.prog 48 #[.int .i64 v] w fun e w' => e = .returned (.bool (decide (Vl v))) ∧ Below w.heap.size w w' :=
  (secateurref02_Value.calls v _ w (rvalue_f v)).mono (fun e w' h => ⟨h.1, h.2.below⟩)
theorem hb4c {w w1 : World} {a : Addr} {v : Value} (hb : Below w.heap.size w w1) (h : w.cell? a = some v) : w1.cell? a = some v := (hb.cell (World.block_lt_of_cell? w a h)).trans h
set_option maxRecDepth 100000
set_option maxHeartbeats 4000000
theorem rcheck_calls (A : Option Addr) (c : Nat) (l : List S62) (w : World) (hr : Kd.C k62 w A l.length l) (hc : l.length ≤ c) (hl : l.length ≤ 1000000) :
    Calls Try.prog 41 #[.slice A l.length c] w fun e w' => e = .returned (.int .i64 (chk l)) ∧ Below w.heap.size w w' := by
  have HR := Aside0.mk hr
  have HL := Aside0.mk hl
  clear hr hc hl
  have hu3 := Try.underlying3
  have hu25 := Try.underlying25
  have hu31 := Try.underlying31
  have hu62 := Try.underlying62
  go_enter Try.func41, Try.ntmps41
  go_wp2_with fail
  go_loopg [3, 4] l.length (fun j v3 v4 wr => ∃ i : Nat, v3 = .int .i64 (cnt (l.take i)) ∧ v4 = .int .i64 (i : Int) ∧ Aside0 (i + j = l.length) ∧ Aside0 (∀ t, t < i → RightAt l t) ∧ Aside0 (Below w.heap.size w wr))
  case atStart => exact ⟨0, rfl, rfl, ⟨Nat.zero_add _⟩, ⟨fun t ht => absurd ht (Nat.not_lt_zero t)⟩, ⟨Below.refl _ _⟩⟩
  case round =>
    obtain ⟨i, rfl, rfl, HI, HW, HB⟩ := hrel
    by_cases hi : i < l.length
    · have HI2 := Aside0.mk hi
      have hi1 : (i : Int) < (l.length : Int) := by omega
      obtain ⟨ad, e, hx0, hx1⟩ := at_T62 HR.out (i : Int) (by omega) hi1
      cases e
      rw [Int.toNat_natCast] at hx0 hx1
      replace hx0 := hb4c HB.out hx0
      replace hx1 := hb4c HB.out hx1
      obtain ⟨x, hx⟩ : ∃ x, (rd_T62 l (i : Int)).f0 = x := ⟨_, rfl⟩
      obtain ⟨y, hy⟩ : ∃ y, (rd_T62 l (i : Int)).f1 = y := ⟨_, rfl⟩
      rw [hx] at hx0
      rw [hy] at hx1
      have HX := Aside0.mk hx
      have HY := Aside0.mk hy
      have q1 := eq_true hi1
      have q2 := eq_true hi
      have q3 : decide ((i : Int) < (l.length : Int)) = true := decide_eq_true hi1
      have hwi : wrap64 ((i : Int) + 1) = (i : Int) + 1 := wrap_id _ (by have := HL.out; omega)
      obtain ⟨n, hn⟩ : ∃ n, n = cnt (l.take i) := ⟨_, rfl⟩
      rw [← hn]
      have HN := Aside0.mk hn
      obtain ⟨j, hj⟩ : ∃ j, gk = j + 1 := ⟨gk - 1, by have := HI.out; omega⟩
      have HJ := Aside0.mk hj
      clear hi hi1 hx hy hj hn
      by_cases hp : 0 < i
      · obtain ⟨p, hpi⟩ : ∃ p, i = p + 1 := ⟨i - 1, by omega⟩
        have HP := Aside0.mk hp
        have hp1 : (p : Int) < (l.length : Int) := by have := HI2.out; omega
        obtain ⟨ad', e, _, hx2⟩ := at_T62 HR.out (p : Int) (by omega) hp1
        cases e
        rw [Int.toNat_natCast] at hx2
        replace hx2 := hb4c HB.out hx2
        have hvz := (HW.out p (by omega)).2.1
        have hpe : (p : Int) = (i : Int) - 1 := by omega
        rw [hpe] at hx2 hvz
        obtain ⟨z, hz⟩ : ∃ z, (rd_T62 l ((i : Int) - 1)).f1 = z := ⟨_, rfl⟩
        rw [hz] at hx2 hvz
        have HZ := Aside0.mk hz
        have HXZ : Vl x → -9223372036854775808 ≤ x - z ∧ x - z ≤ 9223372036854775807 := fun h => by unfold Vl at h hvz; omega
        have q4 := eq_true hp1
        have q5 := eq_true (show p < l.length by omega)
        have q6 : decide (0 < (i : Int)) = true := decide_eq_true (by omega)
        have q7 := eq_true (show 0 < (i : Int) by omega)
        have q8 := eq_true hp
        have hwp : wrap64 ((i : Int) - 1) = (p : Int) := by rw [hpe]; exact wrap_id _ (by have := HL.out; have := HI2.out; omega)
        have hwq : IntKind.i64.wrap ((i : Int) - 1) = (p : Int) := (i64_w _).trans hwp
        clear hp hp1 hz hpi hpe hvz
        go_wp2_with fail
        obtain ⟨w0, hw0⟩ : ∃ w0, w0 = World.drew wr := ⟨_, rfl⟩
        have HBw0 := Aside0.mk (show Below w.heap.size w w0 by rw [hw0]; exact below_drew HB.out)
        have hSw0 : w0.cell? (ad.add (i * 2)) = some (.int .i64 x) ∧ w0.cell? ⟨(ad.add (i * 2)).block, (ad.add (i * 2)).off + 1, none⟩ = some (.int .i64 y) ∧ w0.cell? ⟨(ad.add (p * 2)).block, (ad.add (p * 2)).off + 1, none⟩ = some (.int .i64 z) := by rw [hw0]; exact ⟨hx0, hx1, hx2⟩
        refine wp_region_held_drew (S := fun W => W.cell? (ad.add (i * 2)) = some (.int .i64 x) ∧ W.cell? ⟨(ad.add (i * 2)).block, (ad.add (i * 2)).off + 1, none⟩ = some (.int .i64 y) ∧ W.cell? ⟨(ad.add (p * 2)).block, (ad.add (p * 2)).off + 1, none⟩ = some (.int .i64 z)) (by kernel_rfl) (by rw [hw0] at hSw0; exact hSw0) (fun hHeld => ?_)
        rw [← hw0] at hHeld ⊢
        clear hw0
        refine tk 0 (by assumption) ?_
        refine tk 1 (by assumption) ?_
        refine tk 2 (by assumption) ?_
        refine tk 3 (by assumption) ?_
        refine tk 4 (by assumption) ?_
        refine wpAnyH_ready (rs := [5]) (by kernel_rfl) (by simp) ?_
        refine AllReadyH.cons rfl (fun K hK => ?_) AllReadyH.nil
        go_simp
        go_at_call 48
        refine (v_calls x w0).mono ?_
        rintro e w1 ⟨rfl, hb⟩
        have HBw1 := Aside0.mk (HBw0.out.trans (hb.mono HBw0.out.size))
        have hSw1 : w1.cell? (ad.add (i * 2)) = some (.int .i64 x) ∧ w1.cell? ⟨(ad.add (i * 2)).block, (ad.add (i * 2)).off + 1, none⟩ = some (.int .i64 y) ∧ w1.cell? ⟨(ad.add (p * 2)).block, (ad.add (p * 2)).off + 1, none⟩ = some (.int .i64 z) := ⟨hb4c hb hSw0.1, hb4c hb hSw0.2.1, hb4c hb hSw0.2.2⟩
        clear hb
        go_wp2_with fail
        refine hK.out _ _ hSw1 (fun hHeld => ?_)
        clear hK K
        try simp only [Act.put, List.setIfInBounds_toArray, List.set_cons_zero, List.set_cons_succ, List.getElem_toArray, List.getElem_cons_zero, List.getElem_cons_succ]
        by_cases hx : Vl x
        · rw [decide_eq_true hx]
          have HVX := Aside0.mk hx
          clear hx
          refine tk 6 (by assumption) ?_
          refine tk 7 (by assumption) ?_
          refine tk 8 (by assumption) ?_
          refine tk 9 (by assumption) ?_
          refine tk 10 (by assumption) ?_
          refine tk 11 (by assumption) ?_
          refine tk 12 (by assumption) ?_
          refine wpAnyH_ready (rs := [13]) (by kernel_rfl) (by simp) ?_
          refine AllReadyH.cons rfl (fun K hK => ?_) AllReadyH.nil
          go_simp
          go_at_call 48
          refine (v_calls y w1).mono ?_
          rintro e w2 ⟨rfl, hb⟩
          have HBw2 := Aside0.mk (HBw1.out.trans (hb.mono HBw1.out.size))
          have hSw2 : w2.cell? (ad.add (i * 2)) = some (.int .i64 x) ∧ w2.cell? ⟨(ad.add (i * 2)).block, (ad.add (i * 2)).off + 1, none⟩ = some (.int .i64 y) ∧ w2.cell? ⟨(ad.add (p * 2)).block, (ad.add (p * 2)).off + 1, none⟩ = some (.int .i64 z) := ⟨hb4c hb hSw1.1, hb4c hb hSw1.2.1, hb4c hb hSw1.2.2⟩
          clear hb
          go_wp2_with fail
          refine hK.out _ _ hSw2 (fun hHeld => ?_)
          clear hK K
          try simp only [Act.put, List.setIfInBounds_toArray, List.set_cons_zero, List.set_cons_succ, List.getElem_toArray, List.getElem_cons_zero, List.getElem_cons_succ]
          by_cases hy : Vl y
          · rw [decide_eq_true hy]
            have HVY := Aside0.mk hy
            clear hy
            refine tk 14 (by assumption) ?_
            refine tk 15 (by assumption) ?_
            refine tk 16 (by assumption) ?_
            by_cases hg : y < x
            · have g1 : decide (y < x) = true := decide_eq_true hg
              have g2 := eq_true hg
              have HNO := Aside0.mk (fun (hh : RightAt l i) => by have h4 := hh.2.2.1; rw [HX.out, HY.out] at h4; omega : ¬ RightAt l i)
              clear hg
              refine tk 17 (by assumption) ?_
              refine tk 18 (by assumption) ?_
              refine tk 19 (by assumption) ?_
              refine tk 20 (by assumption) ?_
              refine tk 21 (by assumption) ?_
              refine tk 22 (by assumption) ?_
              refine tk 23 (by assumption) ?_
              refine tk 24 (by assumption) ?_
              refine tk 25 (by assumption) ?_
              refine tk 26 (by assumption) ?_
              refine tk 27 (by assumption) ?_
              refine tk 28 (by assumption) ?_
              refine tk 29 (by assumption) ?_
              refine sk 30 (by assumption) ?_
              refine sk 31 (by assumption) ?_
              refine sk 32 (by assumption) ?_
              refine sk 33 (by assumption) ?_
              refine sk 34 (by assumption) ?_
              refine sk 35 (by assumption) ?_
              refine sk 36 (by assumption) ?_
              refine sk 37 (by assumption) ?_
              refine sk 38 (by assumption) ?_
              refine sk 39 (by assumption) ?_
              refine sk 40 (by assumption) ?_
              refine sk 41 (by assumption) ?_
              refine sk 42 (by assumption) ?_
              refine sk 43 (by assumption) ?_
              refine sk 44 (by assumption) ?_
              refine sk 45 (by assumption) ?_
              refine sk 46 (by assumption) ?_
              refine tk 47 (by assumption) ?_
              refine wpAnyH_done (by kernel_rfl) ?_ _
              go_wp2
              go_ret
              exact ⟨by rw [chk_no l i HI2.out HNO.out]; rfl, HBw2.out⟩
            · have g1 : decide (y < x) = false := decide_eq_false hg
              have g2 := eq_false hg
              have HG := Aside0.mk hg
              clear hg
              refine tk 17 (by assumption) ?_
              refine tk 18 (by assumption) ?_
              refine tk 19 (by assumption) ?_
              refine tk 20 (by assumption) ?_
              refine tk 21 (by assumption) ?_
              refine tk 22 (by assumption) ?_
              refine tk 23 (by assumption) ?_
              refine tk 24 (by assumption) ?_
              refine tk 25 (by assumption) ?_
              refine tk 26 (by assumption) ?_
              refine tk 27 (by assumption) ?_
              refine tk 28 (by assumption) ?_
              refine tk 29 (by assumption) ?_
              refine tk 30 (by assumption) ?_
              refine tk 31 (by assumption) ?_
              refine tk 32 (by assumption) ?_
              refine tk 33 (by assumption) ?_
              refine tk 34 (by assumption) ?_
              refine tk 35 (by assumption) ?_
              refine tk 36 (by assumption) ?_
              refine tk 37 (by assumption) ?_
              refine tk 38 (by assumption) ?_
              refine tk 39 (by assumption) ?_
              refine tk 40 (by assumption) ?_
              refine tk 41 (by assumption) ?_
              refine tk 42 (by assumption) ?_
              refine tk 43 (by assumption) ?_
              refine tk 44 (by assumption) ?_
              by_cases hd : wrap64 (x - z) < 2
              · have d1 : decide (wrap64 (x - z) < 2) = true := decide_eq_true hd
                have d2 := eq_true hd
                have HNO := Aside0.mk (fun (hh : RightAt l i) => by have h4 := hh.2.2.2 (by have := HP.out; omega); rw [HX.out, HZ.out] at h4; rw [wrap_id (x - z) (HXZ HVX.out)] at hd; omega : ¬ RightAt l i)
                clear hd
                refine tk 45 (by assumption) ?_
                refine tk 46 (by assumption) ?_
                refine tk 47 (by assumption) ?_
                refine wpAnyH_done (by kernel_rfl) ?_ _
                go_wp2
                go_ret
                exact ⟨by rw [chk_no l i HI2.out HNO.out]; rfl, HBw2.out⟩
              · have d1 : decide (wrap64 (x - z) < 2) = false := decide_eq_false hd
                have d2 := eq_false hd
                have HD := Aside0.mk (show z + 2 ≤ x by rw [wrap_id (x - z) (HXZ HVX.out)] at hd; omega)
                clear hd
                refine tk 45 (by assumption) ?_
                refine tk 46 (by assumption) ?_
                refine tk 47 (by assumption) ?_
                refine wpAnyH_done (by kernel_rfl) ?_ _
                go_wp2_with fail
                obtain ⟨w3, hw3⟩ : ∃ w3, w3 = World.drew w2 := ⟨_, rfl⟩
                have HBw3 := Aside0.mk (show Below w.heap.size w w3 by rw [hw3]; exact below_drew HBw2.out)
                refine wp_region_held_drew (S := fun W => W.cell? (ad.add (i * 2)) = some (.int .i64 x) ∧ W.cell? ⟨(ad.add (i * 2)).block, (ad.add (i * 2)).off + 1, none⟩ = some (.int .i64 y)) (by kernel_rfl) ⟨hSw2.1, hSw2.2.1⟩ (fun hHeld => ?_)
                rw [← hw3] at hHeld ⊢
                refine tk 0 (by assumption) ?_
                refine tk 1 (by assumption) ?_
                refine tk 2 (by assumption) ?_
                refine tk 3 (by assumption) ?_
                refine tk 4 (by assumption) ?_
                refine tk 5 (by assumption) ?_
                refine tk 6 (by assumption) ?_
                refine tk 7 (by assumption) ?_
                refine tk 8 (by assumption) ?_
                refine tk 9 (by assumption) ?_
                refine tk 10 (by assumption) ?_
                refine tk 11 (by assumption) ?_
                refine tk 12 (by assumption) ?_
                refine tk 13 (by assumption) ?_
                refine tk 14 (by assumption) ?_
                refine wpAnyH_done (by kernel_rfl) ?_ _
                clear hw3
                go_wp2
                go_roundg j
                case measure => have := HJ.out; omega
                case rel =>
                  have e0 := HI.out
                  have e1 := HJ.out
                  have hra : ∀ t, t < i + 1 → RightAt l t := fun t ht => by
                    by_cases hti : t = i
                    · subst hti; exact ⟨by rw [HX.out]; exact HVX.out, by rw [HY.out]; exact HVY.out, by rw [HX.out, HY.out]; exact (by have := HG.out; omega), fun _ => by rw [HX.out, HZ.out]; exact HD.out⟩
                    · exact HW.out t (by omega)
                  have hcn := cnt_next l i HI2.out HL.out hra
                  rw [HX.out, HY.out, ← HN.out] at hcn
                  exact ⟨i + 1, by first | rw [hcn] | (simp [hcn]; done), by first | (simp; done) | (rw [hwi]; simp; done), ⟨by omega⟩, ⟨hra⟩, HBw3⟩
          · rw [decide_eq_false hy]
            have HNO := Aside0.mk (fun (hh : RightAt l i) => hy (by rw [← HY.out]; exact hh.2.1) : ¬ RightAt l i)
            clear hy
            refine tk 14 (by assumption) ?_
            refine tk 15 (by assumption) ?_
            refine tk 16 (by assumption) ?_
            refine sk 17 (by assumption) ?_
            refine sk 18 (by assumption) ?_
            refine sk 19 (by assumption) ?_
            refine sk 20 (by assumption) ?_
            refine sk 21 (by assumption) ?_
            refine sk 22 (by assumption) ?_
            refine sk 23 (by assumption) ?_
            refine sk 24 (by assumption) ?_
            refine sk 25 (by assumption) ?_
            refine sk 26 (by assumption) ?_
            refine sk 27 (by assumption) ?_
            refine tk 28 (by assumption) ?_
            refine tk 29 (by assumption) ?_
            refine sk 30 (by assumption) ?_
            refine sk 31 (by assumption) ?_
            refine sk 32 (by assumption) ?_
            refine sk 33 (by assumption) ?_
            refine sk 34 (by assumption) ?_
            refine sk 35 (by assumption) ?_
            refine sk 36 (by assumption) ?_
            refine sk 37 (by assumption) ?_
            refine sk 38 (by assumption) ?_
            refine sk 39 (by assumption) ?_
            refine sk 40 (by assumption) ?_
            refine sk 41 (by assumption) ?_
            refine sk 42 (by assumption) ?_
            refine sk 43 (by assumption) ?_
            refine sk 44 (by assumption) ?_
            refine sk 45 (by assumption) ?_
            refine sk 46 (by assumption) ?_
            refine tk 47 (by assumption) ?_
            refine wpAnyH_done (by kernel_rfl) ?_ _
            go_wp2
            go_ret
            exact ⟨by rw [chk_no l i HI2.out HNO.out]; rfl, HBw2.out⟩
        · rw [decide_eq_false hx]
          have HNO := Aside0.mk (fun (hh : RightAt l i) => hx (by rw [← HX.out]; exact hh.1) : ¬ RightAt l i)
          clear hx
          refine tk 6 (by assumption) ?_
          refine tk 7 (by assumption) ?_
          refine sk 8 (by assumption) ?_
          refine sk 9 (by assumption) ?_
          refine sk 10 (by assumption) ?_
          refine sk 11 (by assumption) ?_
          refine sk 12 (by assumption) ?_
          refine sk 13 (by assumption) ?_
          refine sk 14 (by assumption) ?_
          refine tk 15 (by assumption) ?_
          refine tk 16 (by assumption) ?_
          refine sk 17 (by assumption) ?_
          refine sk 18 (by assumption) ?_
          refine sk 19 (by assumption) ?_
          refine sk 20 (by assumption) ?_
          refine sk 21 (by assumption) ?_
          refine sk 22 (by assumption) ?_
          refine sk 23 (by assumption) ?_
          refine sk 24 (by assumption) ?_
          refine sk 25 (by assumption) ?_
          refine sk 26 (by assumption) ?_
          refine sk 27 (by assumption) ?_
          refine tk 28 (by assumption) ?_
          refine tk 29 (by assumption) ?_
          refine sk 30 (by assumption) ?_
          refine sk 31 (by assumption) ?_
          refine sk 32 (by assumption) ?_
          refine sk 33 (by assumption) ?_
          refine sk 34 (by assumption) ?_
          refine sk 35 (by assumption) ?_
          refine sk 36 (by assumption) ?_
          refine sk 37 (by assumption) ?_
          refine sk 38 (by assumption) ?_
          refine sk 39 (by assumption) ?_
          refine sk 40 (by assumption) ?_
          refine sk 41 (by assumption) ?_
          refine sk 42 (by assumption) ?_
          refine sk 43 (by assumption) ?_
          refine sk 44 (by assumption) ?_
          refine sk 45 (by assumption) ?_
          refine sk 46 (by assumption) ?_
          refine tk 47 (by assumption) ?_
          refine wpAnyH_done (by kernel_rfl) ?_ _
          go_wp2
          go_ret
          exact ⟨by rw [chk_no l i HI2.out HNO.out]; rfl, HBw1.out⟩
      · have HP := Aside0.mk (show i = 0 by omega)
        have q6 : decide (0 < (i : Int)) = false := decide_eq_false (by omega)
        have q7 := eq_false (show ¬ 0 < (i : Int) by omega)
        have q8 := eq_false hp
        clear hp
        go_wp2_with fail
        obtain ⟨w0, hw0⟩ : ∃ w0, w0 = World.drew wr := ⟨_, rfl⟩
        have HBw0 := Aside0.mk (show Below w.heap.size w w0 by rw [hw0]; exact below_drew HB.out)
        have hSw0 : w0.cell? (ad.add (i * 2)) = some (.int .i64 x) ∧ w0.cell? ⟨(ad.add (i * 2)).block, (ad.add (i * 2)).off + 1, none⟩ = some (.int .i64 y) := by rw [hw0]; exact ⟨hx0, hx1⟩
        refine wp_region_held_drew (S := fun W => W.cell? (ad.add (i * 2)) = some (.int .i64 x) ∧ W.cell? ⟨(ad.add (i * 2)).block, (ad.add (i * 2)).off + 1, none⟩ = some (.int .i64 y)) (by kernel_rfl) (by rw [hw0] at hSw0; exact hSw0) (fun hHeld => ?_)
        rw [← hw0] at hHeld ⊢
        clear hw0
        refine tk 0 (by assumption) ?_
        refine tk 1 (by assumption) ?_
        refine tk 2 (by assumption) ?_
        refine tk 3 (by assumption) ?_
        refine tk 4 (by assumption) ?_
        refine wpAnyH_ready (rs := [5]) (by kernel_rfl) (by simp) ?_
        refine AllReadyH.cons rfl (fun K hK => ?_) AllReadyH.nil
        go_simp
        go_at_call 48
        refine (v_calls x w0).mono ?_
        rintro e w1 ⟨rfl, hb⟩
        have HBw1 := Aside0.mk (HBw0.out.trans (hb.mono HBw0.out.size))
        have hSw1 : w1.cell? (ad.add (i * 2)) = some (.int .i64 x) ∧ w1.cell? ⟨(ad.add (i * 2)).block, (ad.add (i * 2)).off + 1, none⟩ = some (.int .i64 y) := ⟨hb4c hb hSw0.1, hb4c hb hSw0.2⟩
        clear hb
        go_wp2_with fail
        refine hK.out _ _ hSw1 (fun hHeld => ?_)
        clear hK K
        try simp only [Act.put, List.setIfInBounds_toArray, List.set_cons_zero, List.set_cons_succ, List.getElem_toArray, List.getElem_cons_zero, List.getElem_cons_succ]
        by_cases hx : Vl x
        · rw [decide_eq_true hx]
          have HVX := Aside0.mk hx
          clear hx
          refine tk 6 (by assumption) ?_
          refine tk 7 (by assumption) ?_
          refine tk 8 (by assumption) ?_
          refine tk 9 (by assumption) ?_
          refine tk 10 (by assumption) ?_
          refine tk 11 (by assumption) ?_
          refine tk 12 (by assumption) ?_
          refine wpAnyH_ready (rs := [13]) (by kernel_rfl) (by simp) ?_
          refine AllReadyH.cons rfl (fun K hK => ?_) AllReadyH.nil
          go_simp
          go_at_call 48
          refine (v_calls y w1).mono ?_
          rintro e w2 ⟨rfl, hb⟩
          have HBw2 := Aside0.mk (HBw1.out.trans (hb.mono HBw1.out.size))
          have hSw2 : w2.cell? (ad.add (i * 2)) = some (.int .i64 x) ∧ w2.cell? ⟨(ad.add (i * 2)).block, (ad.add (i * 2)).off + 1, none⟩ = some (.int .i64 y) := ⟨hb4c hb hSw1.1, hb4c hb hSw1.2⟩
          clear hb
          go_wp2_with fail
          refine hK.out _ _ hSw2 (fun hHeld => ?_)
          clear hK K
          try simp only [Act.put, List.setIfInBounds_toArray, List.set_cons_zero, List.set_cons_succ, List.getElem_toArray, List.getElem_cons_zero, List.getElem_cons_succ]
          by_cases hy : Vl y
          · rw [decide_eq_true hy]
            have HVY := Aside0.mk hy
            clear hy
            refine tk 14 (by assumption) ?_
            refine tk 15 (by assumption) ?_
            refine tk 16 (by assumption) ?_
            by_cases hg : y < x
            · have g1 : decide (y < x) = true := decide_eq_true hg
              have g2 := eq_true hg
              have HNO := Aside0.mk (fun (hh : RightAt l i) => by have h4 := hh.2.2.1; rw [HX.out, HY.out] at h4; omega : ¬ RightAt l i)
              clear hg
              refine tk 17 (by assumption) ?_
              refine tk 18 (by assumption) ?_
              refine tk 19 (by assumption) ?_
              refine tk 20 (by assumption) ?_
              refine tk 21 (by assumption) ?_
              refine tk 22 (by assumption) ?_
              refine tk 23 (by assumption) ?_
              refine tk 24 (by assumption) ?_
              refine tk 25 (by assumption) ?_
              refine tk 26 (by assumption) ?_
              refine tk 27 (by assumption) ?_
              refine tk 28 (by assumption) ?_
              refine tk 29 (by assumption) ?_
              refine sk 30 (by assumption) ?_
              refine sk 31 (by assumption) ?_
              refine sk 32 (by assumption) ?_
              refine sk 33 (by assumption) ?_
              refine sk 34 (by assumption) ?_
              refine sk 35 (by assumption) ?_
              refine sk 36 (by assumption) ?_
              refine sk 37 (by assumption) ?_
              refine sk 38 (by assumption) ?_
              refine sk 39 (by assumption) ?_
              refine sk 40 (by assumption) ?_
              refine sk 41 (by assumption) ?_
              refine sk 42 (by assumption) ?_
              refine sk 43 (by assumption) ?_
              refine sk 44 (by assumption) ?_
              refine sk 45 (by assumption) ?_
              refine sk 46 (by assumption) ?_
              refine tk 47 (by assumption) ?_
              refine wpAnyH_done (by kernel_rfl) ?_ _
              go_wp2
              go_ret
              exact ⟨by rw [chk_no l i HI2.out HNO.out]; rfl, HBw2.out⟩
            · have g1 : decide (y < x) = false := decide_eq_false hg
              have g2 := eq_false hg
              have HG := Aside0.mk hg
              clear hg
              refine tk 17 (by assumption) ?_
              refine tk 18 (by assumption) ?_
              refine tk 19 (by assumption) ?_
              refine tk 20 (by assumption) ?_
              refine tk 21 (by assumption) ?_
              refine tk 22 (by assumption) ?_
              refine tk 23 (by assumption) ?_
              refine tk 24 (by assumption) ?_
              refine tk 25 (by assumption) ?_
              refine tk 26 (by assumption) ?_
              refine tk 27 (by assumption) ?_
              refine tk 28 (by assumption) ?_
              refine tk 29 (by assumption) ?_
              refine tk 30 (by assumption) ?_
              refine tk 31 (by assumption) ?_
              refine tk 32 (by assumption) ?_
              refine sk 33 (by assumption) ?_
              refine sk 34 (by assumption) ?_
              refine sk 35 (by assumption) ?_
              refine sk 36 (by assumption) ?_
              refine sk 37 (by assumption) ?_
              refine sk 38 (by assumption) ?_
              refine sk 39 (by assumption) ?_
              refine sk 40 (by assumption) ?_
              refine sk 41 (by assumption) ?_
              refine sk 42 (by assumption) ?_
              refine sk 43 (by assumption) ?_
              refine sk 44 (by assumption) ?_
              refine sk 45 (by assumption) ?_
              refine tk 46 (by assumption) ?_
              refine tk 47 (by assumption) ?_
              refine wpAnyH_done (by kernel_rfl) ?_ _
              go_wp2_with fail
              obtain ⟨w3, hw3⟩ : ∃ w3, w3 = World.drew w2 := ⟨_, rfl⟩
              have HBw3 := Aside0.mk (show Below w.heap.size w w3 by rw [hw3]; exact below_drew HBw2.out)
              refine wp_region_held_drew (S := fun W => W.cell? (ad.add (i * 2)) = some (.int .i64 x) ∧ W.cell? ⟨(ad.add (i * 2)).block, (ad.add (i * 2)).off + 1, none⟩ = some (.int .i64 y)) (by kernel_rfl) hSw2 (fun hHeld => ?_)
              rw [← hw3] at hHeld ⊢
              refine tk 0 (by assumption) ?_
              refine tk 1 (by assumption) ?_
              refine tk 2 (by assumption) ?_
              refine tk 3 (by assumption) ?_
              refine tk 4 (by assumption) ?_
              refine tk 5 (by assumption) ?_
              refine tk 6 (by assumption) ?_
              refine tk 7 (by assumption) ?_
              refine tk 8 (by assumption) ?_
              refine tk 9 (by assumption) ?_
              refine tk 10 (by assumption) ?_
              refine tk 11 (by assumption) ?_
              refine tk 12 (by assumption) ?_
              refine tk 13 (by assumption) ?_
              refine tk 14 (by assumption) ?_
              refine wpAnyH_done (by kernel_rfl) ?_ _
              clear hw3
              go_wp2
              go_roundg j
              case measure => have := HJ.out; omega
              case rel =>
                have e0 := HI.out
                have e1 := HJ.out
                have hra : ∀ t, t < i + 1 → RightAt l t := fun t ht => by
                  by_cases hti : t = i
                  · subst hti; exact ⟨by rw [HX.out]; exact HVX.out, by rw [HY.out]; exact HVY.out, by rw [HX.out, HY.out]; exact (by have := HG.out; omega), fun h => absurd h (by have := HP.out; omega)⟩
                  · exact HW.out t (by omega)
                have hcn := cnt_next l i HI2.out HL.out hra
                rw [HX.out, HY.out, ← HN.out] at hcn
                exact ⟨i + 1, by first | rw [hcn] | (simp [hcn]; done), by first | (simp; done) | (rw [hwi]; simp; done), ⟨by omega⟩, ⟨hra⟩, HBw3⟩
          · rw [decide_eq_false hy]
            have HNO := Aside0.mk (fun (hh : RightAt l i) => hy (by rw [← HY.out]; exact hh.2.1) : ¬ RightAt l i)
            clear hy
            refine tk 14 (by assumption) ?_
            refine tk 15 (by assumption) ?_
            refine tk 16 (by assumption) ?_
            refine sk 17 (by assumption) ?_
            refine sk 18 (by assumption) ?_
            refine sk 19 (by assumption) ?_
            refine sk 20 (by assumption) ?_
            refine sk 21 (by assumption) ?_
            refine sk 22 (by assumption) ?_
            refine sk 23 (by assumption) ?_
            refine sk 24 (by assumption) ?_
            refine sk 25 (by assumption) ?_
            refine sk 26 (by assumption) ?_
            refine sk 27 (by assumption) ?_
            refine tk 28 (by assumption) ?_
            refine tk 29 (by assumption) ?_
            refine sk 30 (by assumption) ?_
            refine sk 31 (by assumption) ?_
            refine sk 32 (by assumption) ?_
            refine sk 33 (by assumption) ?_
            refine sk 34 (by assumption) ?_
            refine sk 35 (by assumption) ?_
            refine sk 36 (by assumption) ?_
            refine sk 37 (by assumption) ?_
            refine sk 38 (by assumption) ?_
            refine sk 39 (by assumption) ?_
            refine sk 40 (by assumption) ?_
            refine sk 41 (by assumption) ?_
            refine sk 42 (by assumption) ?_
            refine sk 43 (by assumption) ?_
            refine sk 44 (by assumption) ?_
            refine sk 45 (by assumption) ?_
            refine sk 46 (by assumption) ?_
            refine tk 47 (by assumption) ?_
            refine wpAnyH_done (by kernel_rfl) ?_ _
            go_wp2
            go_ret
            exact ⟨by rw [chk_no l i HI2.out HNO.out]; rfl, HBw2.out⟩
        · rw [decide_eq_false hx]
          have HNO := Aside0.mk (fun (hh : RightAt l i) => hx (by rw [← HX.out]; exact hh.1) : ¬ RightAt l i)
          clear hx
          refine tk 6 (by assumption) ?_
          refine tk 7 (by assumption) ?_
          refine sk 8 (by assumption) ?_
          refine sk 9 (by assumption) ?_
          refine sk 10 (by assumption) ?_
          refine sk 11 (by assumption) ?_
          refine sk 12 (by assumption) ?_
          refine sk 13 (by assumption) ?_
          refine sk 14 (by assumption) ?_
          refine tk 15 (by assumption) ?_
          refine tk 16 (by assumption) ?_
          refine sk 17 (by assumption) ?_
          refine sk 18 (by assumption) ?_
          refine sk 19 (by assumption) ?_
          refine sk 20 (by assumption) ?_
          refine sk 21 (by assumption) ?_
          refine sk 22 (by assumption) ?_
          refine sk 23 (by assumption) ?_
          refine sk 24 (by assumption) ?_
          refine sk 25 (by assumption) ?_
          refine sk 26 (by assumption) ?_
          refine sk 27 (by assumption) ?_
          refine tk 28 (by assumption) ?_
          refine tk 29 (by assumption) ?_
          refine sk 30 (by assumption) ?_
          refine sk 31 (by assumption) ?_
          refine sk 32 (by assumption) ?_
          refine sk 33 (by assumption) ?_
          refine sk 34 (by assumption) ?_
          refine sk 35 (by assumption) ?_
          refine sk 36 (by assumption) ?_
          refine sk 37 (by assumption) ?_
          refine sk 38 (by assumption) ?_
          refine sk 39 (by assumption) ?_
          refine sk 40 (by assumption) ?_
          refine sk 41 (by assumption) ?_
          refine sk 42 (by assumption) ?_
          refine sk 43 (by assumption) ?_
          refine sk 44 (by assumption) ?_
          refine sk 45 (by assumption) ?_
          refine sk 46 (by assumption) ?_
          refine tk 47 (by assumption) ?_
          refine wpAnyH_done (by kernel_rfl) ?_ _
          go_wp2
          go_ret
          exact ⟨by rw [chk_no l i HI2.out HNO.out]; rfl, HBw1.out⟩
    · have hi' : i = l.length := by have := HI.out; omega
      subst hi'
      have q1 : ((l.length : Int) < (l.length : Int)) = False := by simp
      have d1 : decide ((l.length : Int) < (l.length : Int)) = false := by simp
      have HC := Aside0.mk (show chk l = if cnt l > 4096 then 2 else 0 by unfold chk; rw [if_pos (show Right l from fun t ht => HW.out t ht)])
      rw [List.take_length]
      obtain ⟨n, hn⟩ : ∃ n, n = cnt l := ⟨_, rfl⟩
      rw [← hn] at HC ⊢
      clear hi hn
      by_cases hb : 4096 < n
      · have c1 : decide (4096 < n) = true := decide_eq_true hb
        have c2 := eq_true hb
        have HC2 := Aside0.mk (HC.out.trans (if_pos hb))
        clear hb HC
        go_wp2
        go_ret
        exact ⟨by rw [HC2.out]; rfl, HB.out⟩
      · have c1 : decide (4096 < n) = false := decide_eq_false hb
        have c2 := eq_false hb
        have HC2 := Aside0.mk (HC.out.trans (if_neg hb))
        clear hb HC
        go_wp2
        go_ret
        exact ⟨by rw [HC2.out]; rfl, HB.out⟩
end Go.Proofs.Ytcjachhdoogbaaa.PT
