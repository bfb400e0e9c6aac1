/- What a call sets (part). No conditions but the lengths' bounds. -/
import Derived.Test.YtcjachhdoogbaaaTRBack
import Derived.Test.YtcjachhdoogbaaaTLaws
set_option linter.unusedVariables false
set_option linter.unusedSimpArgs false
namespace Go.Proofs.Ytcjachhdoogbaaa.PT
open Go.RowKit Go.Proofs.YtcjachhdoogbaaaW.PrintWords Go.Proofs.YtcjachhdoogbaaaW.PrintLast Go.Proofs.YtcjachhdoogbaaaW.PrintMore
set_option maxRecDepth 100000
set_option maxHeartbeats 4000000
theorem part_calls {T : Nat → Prop} {w : World} {base kb : Nat} {L : List (List S62)} {N : Int} {K : List S74} (okp : Nat → Prop) (f0 f1 : Int) (A2 : Option Addr) (c2 : Nat) (l2 : List Int) (A3 : Option Addr) (c3 : Nat) (l3 : List S62) (h : RSt T w base kb L N K) (hL : L.length ≤ 8 ∧ ∀ x ∈ L, Dom x)
    (h2 : Kd.C (Kd.int .i64) w A2 l2.length l2) (h2c : l2.length ≤ c2) (h3 : Kd.F k62 w okp A3 l3.length l3) (h3c : l3.length ≤ c3) :
    Calls Try.prog 27 #[.pointer (some ⟨kb, 0, none⟩), .agg #[.int .i64 f0, .int .i64 f1, .slice A2 l2.length c2, .slice A3 l3.length c3]] w fun e w' => Below w.heap.size w w' ∧ ∃ A' c' d, e = .returned (.slice A' (List.length d) c') ∧ d.length ≤ c' ∧ Kd.F k62 w' (fun k => okp k ∨ w.heap.size ≤ k) A' d.length d ∧ d.length ≤ 10000 := by
  obtain ⟨Al, cl, Am, cm, hT, hkb, hblk, hle, hF, hm⟩ := h
  have HBL := Aside0.mk hblk
  have HLE := Aside0.mk hle
  have HF := Aside0.mk (Kd.F_now hF)
  have HL := Aside0.mk hL
  have H2 := Aside0.mk (And.intro h2 h2c)
  have H3 := Aside0.mk (And.intro h3 h3c)
  have hk0 := (kcells hblk).1
  have hkl := blk_lt hblk
  obtain ⟨d, hd⟩ : ∃ d, d = l3.take (min 8 l3.length) := ⟨_, rfl⟩
  have hdl : d.length = min 8 l3.length := by rw [hd, List.length_take]; omega
  have hcut : ∀ W : World, (Instr.slice 31 (.slice A3 l3.length c3) none (some (.int .i64 (d.length : Int))) none).run Try.prog W = .ok (.slice A3 d.length c3) W := by
    obtain ⟨i62, hi62, _, _, _⟩ := info_parts info62
    have := cut_to (P := Try.prog) 31 62 .i64 Try.underlying31 hi62 A3 l3.length c3 (d.length : Int) (by omega) (by omega) h3c
    rwa [Int.toNat_natCast] at this
  have hmin : (if (8 : Int) < (l3.length : Int) then 8 else (l3.length : Int)) = (d.length : Int) := by
    by_cases h8 : (8 : Int) < (l3.length : Int)
    · rw [if_pos h8]; omega
    · rw [if_neg h8]; omega
  have HD := Aside0.mk (show d.length ≤ c3 ∧ Kd.F k62 w okp A3 d.length d ∧ d.length ≤ 10000 from ⟨by omega, by rw [hd]; exact Kd.F_take h3 (by omega), by omega⟩)
  have hu3 := Try.underlying3
  have hu28 := Try.underlying28
  have hu30 := Try.underlying30
  have hu31 := Try.underlying31
  have hu33 := Try.underlying33
  have hu74 := Try.underlying74
  have hu77 := Try.underlying77
  obtain ⟨w3, hw3⟩ : ∃ w3, w3 = w.alloc (.cells #[.int .i64 f0, .int .i64 f1, .slice A2 l2.length c2, .slice A3 l3.length c3] 33) := ⟨_, rfl⟩
  have hbk : w3.heap[w.heap.size]? = some (.cells #[.int .i64 f0, .int .i64 f1, .slice A2 l2.length c2, .slice A3 l3.length c3] 33 (0, 0)) := by rw [hw3]; exact heap_alloc_new _ _
  have hb3 : Below w.heap.size w w3 := by rw [hw3]; exact below_alloc (Below.refl _ _) _
  have hy1 : w3.cell? ⟨w.heap.size, 1, none⟩ = some (.int .i64 f1) := (cell_at hbk 1).trans rfl
  have hy2 : w3.cell? ⟨w.heap.size, 2, none⟩ = some (.slice A2 l2.length c2) := (cell_at hbk 2).trans rfl
  have hy3 : w3.cell? ⟨w.heap.size, 3, none⟩ = some (.slice A3 l3.length c3) := (cell_at hbk 3).trans rfl
  have hyk : w3.cell? ⟨kb, 0, none⟩ = some (.slice Al L.length cl) := (hb3.cell hkl).trans hk0
  have HB3 := Aside0.mk hb3
  clear h2 h2c h3 h3c hT hkb hblk hle hF hm hL hbk hb3 hk0 hkl hd hdl
  go_enter Try.func27, Try.ntmps27
  go_wp2_with fail
  rw [← hw3]
  clear hw3
  by_cases h3 : 0 < l3.length
  · have q1 := eq_true (show (0 : Int) < (l3.length : Int) by omega)
    have q2 := eq_true h3
    have q3 : decide ((0 : Int) < (l3.length : Int)) = true := decide_eq_true (by omega)
    clear h3
    refine wp_region_held_drew (S := (fun W => W.cell? ⟨w.heap.size, 1, none⟩ = some (.int .i64 f1) ∧ W.cell? ⟨w.heap.size, 3, none⟩ = some (.slice A3 l3.length c3) ∧ W.cell? ⟨kb, 0, none⟩ = some (.slice Al L.length cl))) (by kernel_rfl) ⟨hy1, hy3, hyk⟩ (fun hHeld => ?_)
    refine tk 0 (by assumption) ?_
    refine tk 1 (by assumption) ?_
    refine tk 2 (by assumption) ?_
    refine tk 3 (by assumption) ?_
    refine tk 4 (by assumption) ?_
    refine sk 5 (by assumption) ?_
    refine sk 6 (by assumption) ?_
    refine sk 7 (by assumption) ?_
    refine tk 8 (by assumption) ?_
    refine tk 9 (by assumption) ?_
    refine sk 10 (by assumption) ?_
    refine sk 11 (by assumption) ?_
    refine sk 12 (by assumption) ?_
    refine sk 13 (by assumption) ?_
    refine sk 14 (by assumption) ?_
    refine sk 15 (by assumption) ?_
    refine sk 16 (by assumption) ?_
    refine sk 17 (by assumption) ?_
    refine sk 18 (by assumption) ?_
    refine tk 19 (by assumption) ?_
    refine wpAnyH_done (by kernel_rfl) ?_ _
    go_wp2
    go_ret
    have hb := below_drew HB3.out
    exact ⟨hb, A3, c3, d, rfl, HD.out.1, Kd.F_mono (Kd.F_below HD.out.2.1 hb) (fun k hk => .inl hk), HD.out.2.2⟩
  · have q1 := eq_false (show ¬ (0 : Int) < (l3.length : Int) by omega)
    have q2 := eq_false h3
    have q3 : decide ((0 : Int) < (l3.length : Int)) = false := decide_eq_false (by omega)
    clear h3
    by_cases h0 : f1 < 0
    · have q4 := eq_true h0
      have q5 : decide (f1 < 0) = true := decide_eq_true h0
      clear h0
      refine wp_region_held_drew (S := (fun W => W.cell? ⟨w.heap.size, 1, none⟩ = some (.int .i64 f1) ∧ W.cell? ⟨w.heap.size, 3, none⟩ = some (.slice A3 l3.length c3) ∧ W.cell? ⟨kb, 0, none⟩ = some (.slice Al L.length cl))) (by kernel_rfl) ⟨hy1, hy3, hyk⟩ (fun hHeld => ?_)
      refine tk 0 (by assumption) ?_
      refine tk 1 (by assumption) ?_
      refine tk 2 (by assumption) ?_
      refine tk 3 (by assumption) ?_
      refine tk 4 (by assumption) ?_
      refine tk 5 (by assumption) ?_
      refine tk 6 (by assumption) ?_
      refine tk 7 (by assumption) ?_
      refine tk 8 (by assumption) ?_
      refine tk 9 (by assumption) ?_
      refine sk 10 (by assumption) ?_
      refine sk 11 (by assumption) ?_
      refine sk 12 (by assumption) ?_
      refine sk 13 (by assumption) ?_
      refine sk 14 (by assumption) ?_
      refine sk 15 (by assumption) ?_
      refine sk 16 (by assumption) ?_
      refine sk 17 (by assumption) ?_
      refine sk 18 (by assumption) ?_
      refine tk 19 (by assumption) ?_
      refine wpAnyH_done (by kernel_rfl) ?_ _
      go_wp2
      go_ret
      have hb := below_drew HB3.out
      exact ⟨hb, A3, c3, d, rfl, HD.out.1, Kd.F_mono (Kd.F_below HD.out.2.1 hb) (fun k hk => .inl hk), HD.out.2.2⟩
    · have q4 := eq_false h0
      have q5 : decide (f1 < 0) = false := decide_eq_false h0
      have HI0 := Aside0.mk (show 0 ≤ f1 by omega)
      clear h0
      by_cases h1 : (L.length : Int) ≤ f1
      · have q6 := eq_true h1
        have q7 : decide ((L.length : Int) ≤ f1) = true := decide_eq_true h1
        clear h1
        refine wp_region_held_drew (S := (fun W => W.cell? ⟨w.heap.size, 1, none⟩ = some (.int .i64 f1) ∧ W.cell? ⟨w.heap.size, 3, none⟩ = some (.slice A3 l3.length c3) ∧ W.cell? ⟨kb, 0, none⟩ = some (.slice Al L.length cl))) (by kernel_rfl) ⟨hy1, hy3, hyk⟩ (fun hHeld => ?_)
        refine tk 0 (by assumption) ?_
        refine tk 1 (by assumption) ?_
        refine tk 2 (by assumption) ?_
        refine tk 3 (by assumption) ?_
        refine tk 4 (by assumption) ?_
        refine tk 5 (by assumption) ?_
        refine tk 6 (by assumption) ?_
        refine tk 7 (by assumption) ?_
        refine tk 8 (by assumption) ?_
        refine tk 9 (by assumption) ?_
        refine tk 10 (by assumption) ?_
        refine tk 11 (by assumption) ?_
        refine tk 12 (by assumption) ?_
        refine tk 13 (by assumption) ?_
        refine tk 14 (by assumption) ?_
        refine tk 15 (by assumption) ?_
        refine tk 16 (by assumption) ?_
        refine tk 17 (by assumption) ?_
        refine tk 18 (by assumption) ?_
        refine tk 19 (by assumption) ?_
        refine wpAnyH_done (by kernel_rfl) ?_ _
        go_wp2
        go_ret
        have hb := below_drew HB3.out
        exact ⟨hb, A3, c3, d, rfl, HD.out.1, Kd.F_mono (Kd.F_below HD.out.2.1 hb) (fun k hk => .inl hk), HD.out.2.2⟩
      · have q6 := eq_false h1
        have q7 : decide ((L.length : Int) ≤ f1) = false := decide_eq_false h1
        have h1' : f1 < (L.length : Int) := by omega
        have HI1 := Aside0.mk h1'
        clear h1
        obtain ⟨al, B, b, e, hx, hlb, hC⟩ := at_L3 HF.out f1 HI0.out h1'
        cases e
        have q8 := eq_true h1'
        have q9 := eq_true HI0.out
        have q10 := eq_true (show f1.toNat < L.length by have := HI0.out; omega)
        have HX := Aside0.mk (And.intro hlb hC)
        have hxx := hx
        clear hlb hC h1'
        refine wp_region_held_drew (S := (fun W => W.cell? ⟨w.heap.size, 1, none⟩ = some (.int .i64 f1) ∧ W.cell? ⟨w.heap.size, 3, none⟩ = some (.slice A3 l3.length c3) ∧ W.cell? ⟨kb, 0, none⟩ = some (.slice (some al) L.length cl))) (by kernel_rfl) ⟨hy1, hy3, hyk⟩ (fun hHeld => ?_)
        refine tk 0 (by assumption) ?_
        refine tk 1 (by assumption) ?_
        refine tk 2 (by assumption) ?_
        refine tk 3 (by assumption) ?_
        refine tk 4 (by assumption) ?_
        refine tk 5 (by assumption) ?_
        refine tk 6 (by assumption) ?_
        refine tk 7 (by assumption) ?_
        refine tk 8 (by assumption) ?_
        refine tk 9 (by assumption) ?_
        refine tk 10 (by assumption) ?_
        refine tk 11 (by assumption) ?_
        refine tk 12 (by assumption) ?_
        refine tk 13 (by assumption) ?_
        refine tk 14 (by assumption) ?_
        refine tk 15 (by assumption) ?_
        refine tk 16 (by assumption) ?_
        refine tk 17 (by assumption) ?_
        refine tk 18 (by assumption) ?_
        refine tk 19 (by assumption) ?_
        refine wpAnyH_done (by kernel_rfl) ?_ _
        go_wp2_with fail
        obtain ⟨w4, hw4⟩ : ∃ w4, w4 = World.drew (World.drew w3) := ⟨_, rfl⟩
        have hb4 : Below w.heap.size w w4 := by rw [hw4]; exact below_drew (below_drew HB3.out)
        have hS4 : w4.cell? ⟨w.heap.size, 1, none⟩ = some (.int .i64 f1) ∧ w4.cell? ⟨w.heap.size, 2, none⟩ = some (.slice A2 l2.length c2) ∧ w4.cell? ⟨kb, 0, none⟩ = some (.slice (some al) L.length cl) ∧ w4.cell? (al.add f1.toNat) = some (.slice B (rd_L3 L f1).length b) := by rw [hw4]; exact ⟨hy1, hy2, hyk, (hb4c (w1 := w3) HB3.out hxx : w3.cell? (al.add f1.toNat) = _)⟩
        have HB4 := Aside0.mk hb4
        refine wp_region_held_drew (S := (fun W => W.cell? ⟨w.heap.size, 1, none⟩ = some (.int .i64 f1) ∧ W.cell? ⟨w.heap.size, 2, none⟩ = some (.slice A2 l2.length c2) ∧ W.cell? ⟨kb, 0, none⟩ = some (.slice (some al) L.length cl) ∧ W.cell? (al.add f1.toNat) = some (.slice B (rd_L3 L f1).length b))) (by kernel_rfl) (by rw [hw4] at hS4; exact hS4) (fun hHeld => ?_)
        rw [← hw4]
        clear hw4 hb4
        refine tk 0 (by assumption) ?_
        refine tk 1 (by assumption) ?_
        refine tk 2 (by assumption) ?_
        refine tk 3 (by assumption) ?_
        refine tk 4 (by assumption) ?_
        refine tk 5 (by assumption) ?_
        refine tk 6 (by assumption) ?_
        refine tk 7 (by assumption) ?_
        refine tk 8 (by assumption) ?_
        refine tk 9 (by assumption) ?_
        refine tk 10 (by assumption) ?_
        refine wpAnyH_ready (rs := [11]) (by kernel_rfl) (by simp) ?_
        refine AllReadyH.cons rfl (fun K hK => ?_) AllReadyH.nil
        go_simp
        go_at_call 15
        refine (s_small A2 c2 l2 w4 (Kd.C_below H2.out.1 HB4.out) H2.out.2).mono ?_
        rintro e w5 ⟨Ad, cd, ds, rfl, hf, hdom, hdl, hb⟩
        have HB5 := Aside0.mk (HB4.out.trans (hb.mono HB4.out.size))
        have HE := Aside0.mk hf
        have HDOM := Aside0.mk hdom
        have hS5 : w5.cell? ⟨w.heap.size, 1, none⟩ = some (.int .i64 f1) ∧ w5.cell? ⟨w.heap.size, 2, none⟩ = some (.slice A2 l2.length c2) ∧ w5.cell? ⟨kb, 0, none⟩ = some (.slice (some al) L.length cl) ∧ w5.cell? (al.add f1.toNat) = some (.slice B (rd_L3 L f1).length b) := ⟨(hb.cell (World.block_lt_of_cell? w4 _ hS4.1)).trans hS4.1, (hb.cell (World.block_lt_of_cell? w4 _ hS4.2.1)).trans hS4.2.1, (hb.cell (World.block_lt_of_cell? w4 _ hS4.2.2.1)).trans hS4.2.2.1, (hb.cell (World.block_lt_of_cell? w4 _ hS4.2.2.2)).trans hS4.2.2.2⟩
        clear hf hb hdom hdl
        go_wp2_with fail
        refine hK.out _ _ hS5 (fun hHeld => ?_)
        clear hK K
        try simp only [Act.put, List.setIfInBounds_toArray, List.set_cons_zero, List.set_cons_succ, List.getElem_toArray, List.getElem_cons_zero, List.getElem_cons_succ]
        refine wpAnyH_ready (rs := [12]) (by kernel_rfl) (by simp) ?_
        refine AllReadyH.cons rfl (fun K hK => ?_) AllReadyH.nil
        go_simp
        go_at_call 17
        refine (s_pick B b (rd_L3 L f1) Ad cd ds true w5 (Kd.C_below HX.out.2 HB5.out) HX.out.1 (Kd.F_now HE.out.2) HE.out.1 (HL.out.2 _ (rdL3_mem L f1 HI0.out HI1.out)) HDOM.out).mono ?_
        rintro e w6 ⟨Ap, cp, dp, rfl, hf, hpl, _, hb⟩
        have HB6 := Aside0.mk (HB5.out.trans (hb.mono HB5.out.size))
        have HP := Aside0.mk hf
        have HPL := Aside0.mk hpl
        have hS6 : w6.cell? ⟨w.heap.size, 1, none⟩ = some (.int .i64 f1) ∧ w6.cell? ⟨w.heap.size, 2, none⟩ = some (.slice A2 l2.length c2) ∧ w6.cell? ⟨kb, 0, none⟩ = some (.slice (some al) L.length cl) ∧ w6.cell? (al.add f1.toNat) = some (.slice B (rd_L3 L f1).length b) := ⟨(hb.cell (World.block_lt_of_cell? w5 _ hS5.1)).trans hS5.1, (hb.cell (World.block_lt_of_cell? w5 _ hS5.2.1)).trans hS5.2.1, (hb.cell (World.block_lt_of_cell? w5 _ hS5.2.2.1)).trans hS5.2.2.1, (hb.cell (World.block_lt_of_cell? w5 _ hS5.2.2.2)).trans hS5.2.2.2⟩
        clear hf hb hpl
        go_wp2_with fail
        refine hK.out _ _ hS6 (fun hHeld => ?_)
        clear hK K
        try simp only [Act.put, List.setIfInBounds_toArray, List.set_cons_zero, List.set_cons_succ, List.getElem_toArray, List.getElem_cons_zero, List.getElem_cons_succ]
        refine tk 13 (by assumption) ?_
        refine wpAnyH_done (by kernel_rfl) ?_ _
        go_wp2
        go_ret
        exact ⟨HB6.out, Ap, cp, dp, rfl, HP.out.1, Kd.F_mono HP.out.2 (fun k hk => .inr (Nat.le_trans HB5.out.size hk)), HPL.out⟩
end Go.Proofs.Ytcjachhdoogbaaa.PT
