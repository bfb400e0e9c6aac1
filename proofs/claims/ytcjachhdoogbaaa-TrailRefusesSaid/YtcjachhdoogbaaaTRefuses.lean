/- TrailRefuses: the law's walk: it answers true. No conditions. -/
import Derived.Test.YtcjachhdoogbaaaTMore
set_option linter.unusedVariables false
set_option linter.unusedSimpArgs false
namespace Go.Proofs.Ytcjachhdoogbaaa.PT
open Go.RowKit Go.Proofs.YtcjachhdoogbaaaW.PrintWords Go.Proofs.YtcjachhdoogbaaaW.PrintLast Go.Proofs.YtcjachhdoogbaaaW.PrintMore
set_option maxRecDepth 100000
set_option maxHeartbeats 4000000
theorem refuses_calls (A0 : Option Addr) (c0 : Nat) (l0 : List (List Int)) (A1 : Option Addr) (c1 : Nat) (l1 : List S33) (w : World) (hr0 : Kd.C kI w A0 l0.length l0) (hc0 : l0.length ≤ c0) (hr1 : Kd.C k33 w A1 l1.length l1) (hc1 : l1.length ≤ c1) :
    Calls Try.prog 7 #[.slice A0 l0.length c0, .slice A1 l1.length c1] w fun e w' => e = .returned (.bool true) ∧ Below w.heap.size w w' := by
  have HR0 := Aside0.mk hr0
  have HC0 := Aside0.mk hc0
  have HR1 := Aside0.mk hr1
  have HC1 := Aside0.mk hc1
  clear hr0 hc0 hr1 hc1
  have hu25 := Try.underlying25
  have hu3 := Try.underlying3
  go_enter Try.func7, Try.ntmps7
  go_wp2_with fail
  refine (s_doms A0 c0 l0 w HR0.out HC0.out).mono ?_
  rintro e w1 ⟨AD, cD, D, rfl, hf, hg, _, hb⟩
  have HB1 := Aside0.mk hb
  have HF := Aside0.mk hf
  have HG := Aside0.mk hg
  clear hb hf hg
  go_wp2_with fail
  refine (s_new AD cD D w1 (Kd.F_now HF.out.2) HF.out.1 HG.out).mono ?_
  rintro e w2 ⟨g, T, rfl, hs⟩
  have HS := Aside0.mk hs
  have HH := Aside0.mk (((Held.of_C (T := T) heap33 HR1.out HC1.out hs.lo HB1.out.size).below HB1.out).below (hs.below))
  clear hs
  clear HF HG HR0 HC0 HR1 HC1
  go_wp2_with fail
  go_loopg [7] (min l1.length 20) (fun j v7 wr => ∃ i : Nat, v7 = .int .i64 (i : Int) ∧ Aside0 (i + j = min l1.length 20) ∧ Aside0 (∃ L C T, Stat T w1 wr w1.heap.size g L C [] i ∧ Held k33 T wr A1 c1 l1))
  case atStart => exact ⟨0, rfl, ⟨Nat.zero_add _⟩, ⟨D, [], T, HS.out, HH.out⟩⟩
  case round =>
    obtain ⟨i, rfl, HI, HX⟩ := hrel
    obtain ⟨L, C, T', hs, hh⟩ := HX.out
    have HS := Aside0.mk hs
    have HH := Aside0.mk hh
    clear hs hh HX
    by_cases hlt : i < l1.length
    · by_cases h40 : i < 20
      · have hi1 : (i : Int) < (l1.length : Int) := by omega
        obtain ⟨ad, A2, c2, A3, c3, e, hx0, hx1, hx2, hx3, hh2, hh3⟩ := at_H33 HH.out (i : Int) (by omega) hi1
        cases e
        rw [Int.toNat_natCast] at hx0 hx1 hx2 hx3
        have H3 := Aside0.mk hh3
        have q1 := eq_true hi1
        have q2 := eq_true hlt
        have q3 : decide ((i : Int) < (l1.length : Int)) = true := decide_eq_true hi1
        have q4 : decide ((i : Int) < 20) = true := decide_eq_true (by omega)
        have q5 := eq_true h40
        obtain ⟨j, hj⟩ : ∃ j, gk = j + 1 := ⟨gk - 1, by have := HI.out; omega⟩
        have HJ := Aside0.mk hj
        clear hj
        have HI40 := Aside0.mk h40
        clear hh2 hh3
        go_wp2_with fail
        obtain ⟨w3, hw3⟩ : ∃ w3, w3 = wr.alloc (.cells #[.int .i64 (rd_T33 l1 (i : Int)).f0, .int .i64 (rd_T33 l1 (i : Int)).f1, .slice A2 (rd_T33 l1 (i : Int)).f2.length c2, .slice A3 (rd_T33 l1 (i : Int)).f3.length c3] 33) := ⟨_, rfl⟩
        have hbk : w3.heap[wr.heap.size]? = some (.cells #[.int .i64 (rd_T33 l1 (i : Int)).f0, .int .i64 (rd_T33 l1 (i : Int)).f1, .slice A2 (rd_T33 l1 (i : Int)).f2.length c2, .slice A3 (rd_T33 l1 (i : Int)).f3.length c3] 33 (0, 0)) := by rw [hw3]; exact heap_alloc_new _ _
        have hbn : ¬ T' wr.heap.size := fun h => absurd (HS.out.hi _ h) (Nat.lt_irrefl _)
        have HBN := Aside0.mk hbn
        have hy1 : w3.cell? ⟨wr.heap.size, 1, none⟩ = some (.int .i64 (rd_T33 l1 (i : Int)).f1) := (cell_at hbk 1).trans rfl
        have hy3 : w3.cell? ⟨wr.heap.size, 3, none⟩ = some (.slice A3 (rd_T33 l1 (i : Int)).f3.length c3) := (cell_at hbk 3).trans rfl
        have hb3 : Below wr.heap.size wr w3 := by rw [hw3]; exact below_alloc (Below.refl _ _) _
        rw [← hw3]
        have HS3 := Aside0.mk (HS.out.read hb3)
        have HD3 := Aside0.mk (H3.out.below hb3)
        have HH3 := Aside0.mk (HH.out.below hb3)
        have HBK := Aside0.mk hbk
        clear hbk hbn hw3 hb3 hx0 hx1 hx2 hx3 H3 HS HH
        refine (s_all HS3.out).mono ?_
        rintro e w4 ⟨Aw, cw, rfl, hf, hb⟩
        have HS4 := Aside0.mk (HS3.out.read hb)
        have HW4 := Aside0.mk (hf.held HS3.out.hi)
        have HH4 := Aside0.mk (HH3.out.below hb)
        have HD4 := Aside0.mk (HD3.out.below hb)
        replace HBK := Aside0.mk ((hb.block _ (World.block_lt_of_cell? w3 _ hy1)).trans HBK.out)
        replace hy1 := (hb.cell (World.block_lt_of_cell? w3 _ hy1)).trans hy1
        replace hy3 := (hb.cell (World.block_lt_of_cell? w3 _ hy3)).trans hy3
        clear hf hb HS3 HH3 HD3
        go_wp2_with fail
        refine (s_changes HS4.out).mono ?_
        rintro e w5 ⟨rfl, hb⟩
        have HS5 := Aside0.mk (HS4.out.read hb)
        have HW5 := Aside0.mk (HW4.out.below hb)
        have HH5 := Aside0.mk (HH4.out.below hb)
        have HD5 := Aside0.mk (HD4.out.below hb)
        replace HBK := Aside0.mk ((hb.block _ (World.block_lt_of_cell? w4 _ hy1)).trans HBK.out)
        replace hy1 := (hb.cell (World.block_lt_of_cell? w4 _ hy1)).trans hy1
        replace hy3 := (hb.cell (World.block_lt_of_cell? w4 _ hy3)).trans hy3
        clear hb HS4 HW4 HH4 HD4
        go_wp2_with fail
        obtain ⟨d, hd⟩ : ∃ d, d = (rd_T33 l1 (i : Int)).f3.take (min 8 (rd_T33 l1 (i : Int)).f3.length) := ⟨_, rfl⟩
        have hdl : d.length = min 8 (rd_T33 l1 (i : Int)).f3.length := by rw [hd, List.length_take]; omega
        have hle3 := HD5.out.1
        have hcut : ∀ W : World, (Instr.slice 31 (.slice A3 (rd_T33 l1 (i : Int)).f3.length c3) none (some (.int .i64 (d.length : Int))) none).run Try.prog W = .ok (.slice A3 d.length c3) W := by
          obtain ⟨i62, hi62, _, _, _⟩ := info_parts info62
          have := cut_to (P := Try.prog) 31 62 .i64 Try.underlying31 hi62 A3 (rd_T33 l1 (i : Int)).f3.length c3 (d.length : Int) (by omega) (by omega) hle3
          rwa [Int.toNat_natCast] at this
        have hmin : (if (8 : Int) < ((rd_T33 l1 (i : Int)).f3.length : Int) then 8 else ((rd_T33 l1 (i : Int)).f3.length : Int)) = (d.length : Int) := by
          by_cases h8 : (8 : Int) < ((rd_T33 l1 (i : Int)).f3.length : Int)
          · rw [if_pos h8]; omega
          · rw [if_neg h8]; omega
        have HDT := Aside0.mk (show Held k62 T' w5 A3 c3 d from ⟨by omega, by rw [hd]; exact Kd.F_take HD5.out.2 (by omega)⟩)
        obtain ⟨L', C', r, hset, -⟩ := setS_f KK L C (rd_T33 l1 (i : Int)).f1 d (by rw [kk]; omega) HS5.out.good.dom (by omega)
        have HSET := Aside0.mk hset
        have HDL := Aside0.mk (show d.length ≤ 8 by omega)
        have HSD := Aside0.mk (HS5.out.read (below_drew (Below.refl w5.heap.size w5)))
        have HWD := Aside0.mk (HW5.out.below (below_drew (Below.refl w5.heap.size w5)))
        have HHD := Aside0.mk (HH5.out.below (below_drew (Below.refl w5.heap.size w5)))
        have HDD := Aside0.mk (HDT.out.below (below_drew (Below.refl w5.heap.size w5)))
        clear hd hdl hle3 hset HS5 HW5 HH5 HD5 HDT
        have hS5 := And.intro hy1 hy3
        have HLT := Aside0.mk (World.block_lt_of_cell? w5 _ hy1)
        by_cases hr : r = 0
        · subst hr
          refine wp_region_held_drew (S := (fun W => W.cell? ⟨wr.heap.size, 1, none⟩ = some (.int .i64 (rd_T33 l1 (i : Int)).f1) ∧ W.cell? ⟨wr.heap.size, 3, none⟩ = some (.slice A3 (rd_T33 l1 (i : Int)).f3.length c3))) (by kernel_rfl) hS5 (fun hHeld => ?_)
          refine wpAnyH_take (i := 0) (v := ?_) rfl (by kernel_rfl) (by kernel_rfl) (by kernel_rfl) (fun _ _ _ h => h) (Or.inl ⟨by rfl, ?_⟩) (by assumption) ?_
          rotate_left
          · (intro w hSw; (try dsimp only at hSw); go_simp; all_goals (with_reducible rfl))
          try simp only [Act.put, List.setIfInBounds_toArray, List.set_cons_zero, List.set_cons_succ, List.getElem_toArray, List.getElem_cons_zero, List.getElem_cons_succ]
          refine wpAnyH_take (i := 1) (v := ?_) rfl (by kernel_rfl) (by kernel_rfl) (by kernel_rfl) (fun _ _ _ h => h) (Or.inl ⟨by rfl, ?_⟩) (by assumption) ?_
          rotate_left
          · (intro w hSw; (try dsimp only at hSw); go_simp; all_goals (with_reducible rfl))
          try simp only [Act.put, List.setIfInBounds_toArray, List.set_cons_zero, List.set_cons_succ, List.getElem_toArray, List.getElem_cons_zero, List.getElem_cons_succ]
          refine wpAnyH_take (i := 2) (v := ?_) rfl (by kernel_rfl) (by kernel_rfl) (by kernel_rfl) (fun _ _ _ h => h) (Or.inl ⟨by rfl, ?_⟩) (by assumption) ?_
          rotate_left
          · (intro w hSw; (try dsimp only at hSw); go_simp; all_goals (with_reducible rfl))
          try simp only [Act.put, List.setIfInBounds_toArray, List.set_cons_zero, List.set_cons_succ, List.getElem_toArray, List.getElem_cons_zero, List.getElem_cons_succ]
          refine wpAnyH_take (i := 3) (v := ?_) rfl (by kernel_rfl) (by kernel_rfl) (by kernel_rfl) (fun _ _ _ h => h) (Or.inl ⟨by rfl, ?_⟩) (by assumption) ?_
          rotate_left
          · (intro w hSw; (try dsimp only at hSw); go_simp; all_goals (with_reducible rfl))
          try simp only [Act.put, List.setIfInBounds_toArray, List.set_cons_zero, List.set_cons_succ, List.getElem_toArray, List.getElem_cons_zero, List.getElem_cons_succ]
          refine wpAnyH_take (i := 4) (v := ?_) rfl (by kernel_rfl) (by kernel_rfl) (by kernel_rfl) (fun _ _ _ h => h) (Or.inl ⟨by rfl, ?_⟩) (by assumption) ?_
          rotate_left
          · (intro w hSw; (try dsimp only at hSw); go_simp; all_goals (with_reducible rfl))
          try simp only [Act.put, List.setIfInBounds_toArray, List.set_cons_zero, List.set_cons_succ, List.getElem_toArray, List.getElem_cons_zero, List.getElem_cons_succ]
          refine wpAnyH_take (i := 5) (v := ?_) rfl (by kernel_rfl) (by kernel_rfl) (by kernel_rfl) (fun _ _ _ h => h) (Or.inl ⟨by rfl, ?_⟩) (by assumption) ?_
          rotate_left
          · (intro w hSw; (try dsimp only at hSw); go_simp; all_goals (with_reducible rfl))
          try simp only [Act.put, List.setIfInBounds_toArray, List.set_cons_zero, List.set_cons_succ, List.getElem_toArray, List.getElem_cons_zero, List.getElem_cons_succ]
          refine wpAnyH_take (i := 6) (v := ?_) rfl (by kernel_rfl) (by kernel_rfl) (by kernel_rfl) (fun _ _ _ h => h) (Or.inl ⟨by rfl, ?_⟩) (by assumption) ?_
          rotate_left
          · (intro w hSw; (try dsimp only at hSw); go_simp; all_goals (with_reducible rfl))
          try simp only [Act.put, List.setIfInBounds_toArray, List.set_cons_zero, List.set_cons_succ, List.getElem_toArray, List.getElem_cons_zero, List.getElem_cons_succ]
          refine wpAnyH_take (i := 7) (v := ?_) rfl (by kernel_rfl) (by kernel_rfl) (by kernel_rfl) (fun _ _ _ h => h) (Or.inl ⟨by rfl, ?_⟩) (by assumption) ?_
          rotate_left
          · (intro w hSw; (try dsimp only at hSw); go_simp; all_goals (with_reducible rfl))
          try simp only [Act.put, List.setIfInBounds_toArray, List.set_cons_zero, List.set_cons_succ, List.getElem_toArray, List.getElem_cons_zero, List.getElem_cons_succ]
          refine wpAnyH_take (i := 8) (v := ?_) rfl (by kernel_rfl) (by kernel_rfl) (by kernel_rfl) (fun _ _ _ h => h) (Or.inl ⟨by rfl, ?_⟩) (by assumption) ?_
          rotate_left
          · (intro w hSw; (try dsimp only at hSw); go_simp; all_goals (with_reducible rfl))
          try simp only [Act.put, List.setIfInBounds_toArray, List.set_cons_zero, List.set_cons_succ, List.getElem_toArray, List.getElem_cons_zero, List.getElem_cons_succ]
          refine wpAnyH_take (i := 9) (v := ?_) rfl (by kernel_rfl) (by kernel_rfl) (by kernel_rfl) (fun _ _ _ h => h) (Or.inl ⟨by rfl, ?_⟩) (by assumption) ?_
          rotate_left
          · (intro w hSw; (try dsimp only at hSw); go_simp; all_goals (with_reducible rfl))
          try simp only [Act.put, List.setIfInBounds_toArray, List.set_cons_zero, List.set_cons_succ, List.getElem_toArray, List.getElem_cons_zero, List.getElem_cons_succ]
          refine wpAnyH_ready (rs := [10]) (by kernel_rfl) (by simp) ?_
          refine AllReadyH.cons rfl (fun K hK => ?_) AllReadyH.nil
          go_simp
          go_at_call 14
          refine (s_set2 (w0 := w1) (rd_T33 l1 (i : Int)).f1 A3 c3 d L' C' 0 HSD.out HDD.out (by have := HDL.out; omega) (by have := HI40.out; omega) HSET.out).mono ?_
          rintro e w6 ⟨T6, rfl, hs6, hk6, hkk⟩
          have hS6 : w6.cell? ⟨wr.heap.size, 1, none⟩ = some (.int .i64 (rd_T33 l1 (i : Int)).f1) ∧ w6.cell? ⟨wr.heap.size, 3, none⟩ = some (.slice A3 (rd_T33 l1 (i : Int)).f3.length c3) := ⟨(cell_at ((hkk.2 _ HLT.out HBN.out).trans HBK.out) 1).trans rfl, (cell_at ((hkk.2 _ HLT.out HBN.out).trans HBK.out) 3).trans rfl⟩
          have HS6 := Aside0.mk hs6
          have HW6 := Aside0.mk (hk6 _ _ _ _ HWD.out)
          have HH6 := Aside0.mk (hk6 _ _ _ _ HHD.out)
          clear hs6 hk6 hkk
          go_wp2_with fail
          refine hK.out _ _ hS6 (fun hHeld => ?_)
          clear hK K
          try simp only [Act.put, List.setIfInBounds_toArray, List.set_cons_zero, List.set_cons_succ, List.getElem_toArray, List.getElem_cons_zero, List.getElem_cons_succ]
          refine wpAnyH_take (i := 11) (v := ?_) rfl (by kernel_rfl) (by kernel_rfl) (by kernel_rfl) (fun _ _ _ h => h) (Or.inl ⟨by rfl, ?_⟩) (by assumption) ?_
          rotate_left
          · (intro w hSw; (try dsimp only at hSw); go_simp; all_goals (with_reducible rfl))
          try simp only [Act.put, List.setIfInBounds_toArray, List.set_cons_zero, List.set_cons_succ, List.getElem_toArray, List.getElem_cons_zero, List.getElem_cons_succ]
          refine wpAnyH_take (i := 12) (v := ?_) rfl (by kernel_rfl) (by kernel_rfl) (by kernel_rfl) (fun _ _ _ h => h) (Or.inl ⟨by rfl, ?_⟩) (by assumption) ?_
          rotate_left
          · (intro w hSw; (try dsimp only at hSw); go_simp; all_goals (with_reducible rfl))
          try simp only [Act.put, List.setIfInBounds_toArray, List.set_cons_zero, List.set_cons_succ, List.getElem_toArray, List.getElem_cons_zero, List.getElem_cons_succ]
          refine wpAnyH_take (i := 13) (v := undef) rfl (by kernel_rfl) (by kernel_rfl) (by kernel_rfl) (fun _ _ _ h => h) (Or.inr ⟨by rfl, rfl⟩) (by assumption) ?_
          try simp only [Act.put, List.setIfInBounds_toArray, List.set_cons_zero, List.set_cons_succ, List.getElem_toArray, List.getElem_cons_zero, List.getElem_cons_succ]
          refine wpAnyH_take (i := 14) (v := undef) rfl (by kernel_rfl) (by kernel_rfl) (by kernel_rfl) (fun _ _ _ h => h) (Or.inr ⟨by rfl, rfl⟩) (by assumption) ?_
          try simp only [Act.put, List.setIfInBounds_toArray, List.set_cons_zero, List.set_cons_succ, List.getElem_toArray, List.getElem_cons_zero, List.getElem_cons_succ]
          refine wpAnyH_take (i := 15) (v := undef) rfl (by kernel_rfl) (by kernel_rfl) (by kernel_rfl) (fun _ _ _ h => h) (Or.inr ⟨by rfl, rfl⟩) (by assumption) ?_
          try simp only [Act.put, List.setIfInBounds_toArray, List.set_cons_zero, List.set_cons_succ, List.getElem_toArray, List.getElem_cons_zero, List.getElem_cons_succ]
          refine wpAnyH_take (i := 16) (v := undef) rfl (by kernel_rfl) (by kernel_rfl) (by kernel_rfl) (fun _ _ _ h => h) (Or.inr ⟨by rfl, rfl⟩) (by assumption) ?_
          try simp only [Act.put, List.setIfInBounds_toArray, List.set_cons_zero, List.set_cons_succ, List.getElem_toArray, List.getElem_cons_zero, List.getElem_cons_succ]
          refine wpAnyH_take (i := 17) (v := undef) rfl (by kernel_rfl) (by kernel_rfl) (by kernel_rfl) (fun _ _ _ h => h) (Or.inr ⟨by rfl, rfl⟩) (by assumption) ?_
          try simp only [Act.put, List.setIfInBounds_toArray, List.set_cons_zero, List.set_cons_succ, List.getElem_toArray, List.getElem_cons_zero, List.getElem_cons_succ]
          refine wpAnyH_take (i := 18) (v := undef) rfl (by kernel_rfl) (by kernel_rfl) (by kernel_rfl) (fun _ _ _ h => h) (Or.inr ⟨by rfl, rfl⟩) (by assumption) ?_
          try simp only [Act.put, List.setIfInBounds_toArray, List.set_cons_zero, List.set_cons_succ, List.getElem_toArray, List.getElem_cons_zero, List.getElem_cons_succ]
          refine wpAnyH_take (i := 19) (v := undef) rfl (by kernel_rfl) (by kernel_rfl) (by kernel_rfl) (fun _ _ _ h => h) (Or.inr ⟨by rfl, rfl⟩) (by assumption) ?_
          try simp only [Act.put, List.setIfInBounds_toArray, List.set_cons_zero, List.set_cons_succ, List.getElem_toArray, List.getElem_cons_zero, List.getElem_cons_succ]
          refine wpAnyH_take (i := 20) (v := undef) rfl (by kernel_rfl) (by kernel_rfl) (by kernel_rfl) (fun _ _ _ h => h) (Or.inr ⟨by rfl, rfl⟩) (by assumption) ?_
          try simp only [Act.put, List.setIfInBounds_toArray, List.set_cons_zero, List.set_cons_succ, List.getElem_toArray, List.getElem_cons_zero, List.getElem_cons_succ]
          refine wpAnyH_take (i := 21) (v := undef) rfl (by kernel_rfl) (by kernel_rfl) (by kernel_rfl) (fun _ _ _ h => h) (Or.inr ⟨by rfl, rfl⟩) (by assumption) ?_
          try simp only [Act.put, List.setIfInBounds_toArray, List.set_cons_zero, List.set_cons_succ, List.getElem_toArray, List.getElem_cons_zero, List.getElem_cons_succ]
          refine wpAnyH_take (i := 22) (v := undef) rfl (by kernel_rfl) (by kernel_rfl) (by kernel_rfl) (fun _ _ _ h => h) (Or.inr ⟨by rfl, rfl⟩) (by assumption) ?_
          try simp only [Act.put, List.setIfInBounds_toArray, List.set_cons_zero, List.set_cons_succ, List.getElem_toArray, List.getElem_cons_zero, List.getElem_cons_succ]
          refine wpAnyH_take (i := 23) (v := undef) rfl (by kernel_rfl) (by kernel_rfl) (by kernel_rfl) (fun _ _ _ h => h) (Or.inr ⟨by rfl, rfl⟩) (by assumption) ?_
          try simp only [Act.put, List.setIfInBounds_toArray, List.set_cons_zero, List.set_cons_succ, List.getElem_toArray, List.getElem_cons_zero, List.getElem_cons_succ]
          refine wpAnyH_take (i := 24) (v := undef) rfl (by kernel_rfl) (by kernel_rfl) (by kernel_rfl) (fun _ _ _ h => h) (Or.inr ⟨by rfl, rfl⟩) (by assumption) ?_
          try simp only [Act.put, List.setIfInBounds_toArray, List.set_cons_zero, List.set_cons_succ, List.getElem_toArray, List.getElem_cons_zero, List.getElem_cons_succ]
          refine wpAnyH_take (i := 25) (v := undef) rfl (by kernel_rfl) (by kernel_rfl) (by kernel_rfl) (fun _ _ _ h => h) (Or.inr ⟨by rfl, rfl⟩) (by assumption) ?_
          try simp only [Act.put, List.setIfInBounds_toArray, List.set_cons_zero, List.set_cons_succ, List.getElem_toArray, List.getElem_cons_zero, List.getElem_cons_succ]
          refine wpAnyH_take (i := 26) (v := ?_) rfl (by kernel_rfl) (by kernel_rfl) (by kernel_rfl) (fun _ _ _ h => h) (Or.inl ⟨by rfl, ?_⟩) (by assumption) ?_
          rotate_left
          · (intro w hSw; (try dsimp only at hSw); go_simp; all_goals (with_reducible rfl))
          try simp only [Act.put, List.setIfInBounds_toArray, List.set_cons_zero, List.set_cons_succ, List.getElem_toArray, List.getElem_cons_zero, List.getElem_cons_succ]
          refine wpAnyH_done (by kernel_rfl) ?_ _
          go_wp2
          go_roundg j
          case measure => have := HJ.out; omega
          case rel =>
            have e0 := HI.out
            have e1 := HJ.out
            exact ⟨i + 1, by simp, ⟨by omega⟩, ⟨L', C', _, HS6.out.more (by omega), HH6.out⟩⟩
        · have hrr := set_none HSD.out.good (by have := HDL.out; omega) HSET.out hr
          obtain ⟨rfl, rfl⟩ := hrr
          have r1 : (r == 0) = false := beq_eq_false_iff_ne.mpr hr
          have r2 : (r != 0) = true := bne_iff_ne.mpr hr
          clear hr
          refine wp_region_held_drew (S := (fun W => W.cell? ⟨wr.heap.size, 1, none⟩ = some (.int .i64 (rd_T33 l1 (i : Int)).f1) ∧ W.cell? ⟨wr.heap.size, 3, none⟩ = some (.slice A3 (rd_T33 l1 (i : Int)).f3.length c3))) (by kernel_rfl) hS5 (fun hHeld => ?_)
          refine wpAnyH_take (i := 0) (v := ?_) rfl (by kernel_rfl) (by kernel_rfl) (by kernel_rfl) (fun _ _ _ h => h) (Or.inl ⟨by rfl, ?_⟩) (by assumption) ?_
          rotate_left
          · (intro w hSw; (try dsimp only at hSw); go_simp; all_goals (with_reducible rfl))
          try simp only [Act.put, List.setIfInBounds_toArray, List.set_cons_zero, List.set_cons_succ, List.getElem_toArray, List.getElem_cons_zero, List.getElem_cons_succ]
          refine wpAnyH_take (i := 1) (v := ?_) rfl (by kernel_rfl) (by kernel_rfl) (by kernel_rfl) (fun _ _ _ h => h) (Or.inl ⟨by rfl, ?_⟩) (by assumption) ?_
          rotate_left
          · (intro w hSw; (try dsimp only at hSw); go_simp; all_goals (with_reducible rfl))
          try simp only [Act.put, List.setIfInBounds_toArray, List.set_cons_zero, List.set_cons_succ, List.getElem_toArray, List.getElem_cons_zero, List.getElem_cons_succ]
          refine wpAnyH_take (i := 2) (v := ?_) rfl (by kernel_rfl) (by kernel_rfl) (by kernel_rfl) (fun _ _ _ h => h) (Or.inl ⟨by rfl, ?_⟩) (by assumption) ?_
          rotate_left
          · (intro w hSw; (try dsimp only at hSw); go_simp; all_goals (with_reducible rfl))
          try simp only [Act.put, List.setIfInBounds_toArray, List.set_cons_zero, List.set_cons_succ, List.getElem_toArray, List.getElem_cons_zero, List.getElem_cons_succ]
          refine wpAnyH_take (i := 3) (v := ?_) rfl (by kernel_rfl) (by kernel_rfl) (by kernel_rfl) (fun _ _ _ h => h) (Or.inl ⟨by rfl, ?_⟩) (by assumption) ?_
          rotate_left
          · (intro w hSw; (try dsimp only at hSw); go_simp; all_goals (with_reducible rfl))
          try simp only [Act.put, List.setIfInBounds_toArray, List.set_cons_zero, List.set_cons_succ, List.getElem_toArray, List.getElem_cons_zero, List.getElem_cons_succ]
          refine wpAnyH_take (i := 4) (v := ?_) rfl (by kernel_rfl) (by kernel_rfl) (by kernel_rfl) (fun _ _ _ h => h) (Or.inl ⟨by rfl, ?_⟩) (by assumption) ?_
          rotate_left
          · (intro w hSw; (try dsimp only at hSw); go_simp; all_goals (with_reducible rfl))
          try simp only [Act.put, List.setIfInBounds_toArray, List.set_cons_zero, List.set_cons_succ, List.getElem_toArray, List.getElem_cons_zero, List.getElem_cons_succ]
          refine wpAnyH_take (i := 5) (v := ?_) rfl (by kernel_rfl) (by kernel_rfl) (by kernel_rfl) (fun _ _ _ h => h) (Or.inl ⟨by rfl, ?_⟩) (by assumption) ?_
          rotate_left
          · (intro w hSw; (try dsimp only at hSw); go_simp; all_goals (with_reducible rfl))
          try simp only [Act.put, List.setIfInBounds_toArray, List.set_cons_zero, List.set_cons_succ, List.getElem_toArray, List.getElem_cons_zero, List.getElem_cons_succ]
          refine wpAnyH_take (i := 6) (v := ?_) rfl (by kernel_rfl) (by kernel_rfl) (by kernel_rfl) (fun _ _ _ h => h) (Or.inl ⟨by rfl, ?_⟩) (by assumption) ?_
          rotate_left
          · (intro w hSw; (try dsimp only at hSw); go_simp; all_goals (with_reducible rfl))
          try simp only [Act.put, List.setIfInBounds_toArray, List.set_cons_zero, List.set_cons_succ, List.getElem_toArray, List.getElem_cons_zero, List.getElem_cons_succ]
          refine wpAnyH_take (i := 7) (v := ?_) rfl (by kernel_rfl) (by kernel_rfl) (by kernel_rfl) (fun _ _ _ h => h) (Or.inl ⟨by rfl, ?_⟩) (by assumption) ?_
          rotate_left
          · (intro w hSw; (try dsimp only at hSw); go_simp; all_goals (with_reducible rfl))
          try simp only [Act.put, List.setIfInBounds_toArray, List.set_cons_zero, List.set_cons_succ, List.getElem_toArray, List.getElem_cons_zero, List.getElem_cons_succ]
          refine wpAnyH_take (i := 8) (v := ?_) rfl (by kernel_rfl) (by kernel_rfl) (by kernel_rfl) (fun _ _ _ h => h) (Or.inl ⟨by rfl, ?_⟩) (by assumption) ?_
          rotate_left
          · (intro w hSw; (try dsimp only at hSw); go_simp; all_goals (with_reducible rfl))
          try simp only [Act.put, List.setIfInBounds_toArray, List.set_cons_zero, List.set_cons_succ, List.getElem_toArray, List.getElem_cons_zero, List.getElem_cons_succ]
          refine wpAnyH_take (i := 9) (v := ?_) rfl (by kernel_rfl) (by kernel_rfl) (by kernel_rfl) (fun _ _ _ h => h) (Or.inl ⟨by rfl, ?_⟩) (by assumption) ?_
          rotate_left
          · (intro w hSw; (try dsimp only at hSw); go_simp; all_goals (with_reducible rfl))
          try simp only [Act.put, List.setIfInBounds_toArray, List.set_cons_zero, List.set_cons_succ, List.getElem_toArray, List.getElem_cons_zero, List.getElem_cons_succ]
          refine wpAnyH_ready (rs := [10]) (by kernel_rfl) (by simp) ?_
          refine AllReadyH.cons rfl (fun K hK => ?_) AllReadyH.nil
          go_simp
          go_at_call 14
          refine (s_set2 (w0 := w1) (rd_T33 l1 (i : Int)).f1 A3 c3 d _ _ r HSD.out HDD.out (by have := HDL.out; omega) (by have := HI40.out; omega) HSET.out).mono ?_
          rintro e w6 ⟨T6, rfl, hs6, hk6, hkk⟩
          have hS6 : w6.cell? ⟨wr.heap.size, 1, none⟩ = some (.int .i64 (rd_T33 l1 (i : Int)).f1) ∧ w6.cell? ⟨wr.heap.size, 3, none⟩ = some (.slice A3 (rd_T33 l1 (i : Int)).f3.length c3) := ⟨(cell_at ((hkk.2 _ HLT.out HBN.out).trans HBK.out) 1).trans rfl, (cell_at ((hkk.2 _ HLT.out HBN.out).trans HBK.out) 3).trans rfl⟩
          have HS6 := Aside0.mk hs6
          have HW6 := Aside0.mk (hk6 _ _ _ _ HWD.out)
          have HH6 := Aside0.mk (hk6 _ _ _ _ HHD.out)
          clear hs6 hk6 hkk
          go_wp2_with fail
          refine hK.out _ _ hS6 (fun hHeld => ?_)
          clear hK K
          try simp only [Act.put, List.setIfInBounds_toArray, List.set_cons_zero, List.set_cons_succ, List.getElem_toArray, List.getElem_cons_zero, List.getElem_cons_succ]
          refine wpAnyH_take (i := 11) (v := ?_) rfl (by kernel_rfl) (by kernel_rfl) (by kernel_rfl) (fun _ _ _ h => h) (Or.inl ⟨by rfl, ?_⟩) (by assumption) ?_
          rotate_left
          · (intro w hSw; (try dsimp only at hSw); go_simp; all_goals (with_reducible rfl))
          try simp only [Act.put, List.setIfInBounds_toArray, List.set_cons_zero, List.set_cons_succ, List.getElem_toArray, List.getElem_cons_zero, List.getElem_cons_succ]
          refine wpAnyH_take (i := 12) (v := ?_) rfl (by kernel_rfl) (by kernel_rfl) (by kernel_rfl) (fun _ _ _ h => h) (Or.inl ⟨by rfl, ?_⟩) (by assumption) ?_
          rotate_left
          · (intro w hSw; (try dsimp only at hSw); go_simp; all_goals (with_reducible rfl))
          try simp only [Act.put, List.setIfInBounds_toArray, List.set_cons_zero, List.set_cons_succ, List.getElem_toArray, List.getElem_cons_zero, List.getElem_cons_succ]
          refine wpAnyH_take (i := 13) (v := ?_) rfl (by kernel_rfl) (by kernel_rfl) (by kernel_rfl) (fun _ _ _ h => h) (Or.inl ⟨by rfl, ?_⟩) (by assumption) ?_
          rotate_left
          · (intro w hSw; (try dsimp only at hSw); go_simp; all_goals (with_reducible rfl))
          try simp only [Act.put, List.setIfInBounds_toArray, List.set_cons_zero, List.set_cons_succ, List.getElem_toArray, List.getElem_cons_zero, List.getElem_cons_succ]
          refine wpAnyH_take (i := 14) (v := ?_) rfl (by kernel_rfl) (by kernel_rfl) (by kernel_rfl) (fun _ _ _ h => h) (Or.inl ⟨by rfl, ?_⟩) (by assumption) ?_
          rotate_left
          · (intro w hSw; (try dsimp only at hSw); go_simp; all_goals (with_reducible rfl))
          try simp only [Act.put, List.setIfInBounds_toArray, List.set_cons_zero, List.set_cons_succ, List.getElem_toArray, List.getElem_cons_zero, List.getElem_cons_succ]
          refine wpAnyH_take (i := 15) (v := ?_) rfl (by kernel_rfl) (by kernel_rfl) (by kernel_rfl) (fun _ _ _ h => h) (Or.inl ⟨by rfl, ?_⟩) (by assumption) ?_
          rotate_left
          · (intro w hSw; (try dsimp only at hSw); go_simp; all_goals (with_reducible rfl))
          try simp only [Act.put, List.setIfInBounds_toArray, List.set_cons_zero, List.set_cons_succ, List.getElem_toArray, List.getElem_cons_zero, List.getElem_cons_succ]
          refine wpAnyH_take (i := 17) (v := ?_) rfl (by kernel_rfl) (by kernel_rfl) (by kernel_rfl) (fun _ _ _ h => h) (Or.inl ⟨by rfl, ?_⟩) (by assumption) ?_
          rotate_left
          · (intro w hSw; (try dsimp only at hSw); go_simp; all_goals (with_reducible rfl))
          try simp only [Act.put, List.setIfInBounds_toArray, List.set_cons_zero, List.set_cons_succ, List.getElem_toArray, List.getElem_cons_zero, List.getElem_cons_succ]
          refine wpAnyH_ready (rs := [16]) (by kernel_rfl) (by simp) ?_
          refine AllReadyH.cons rfl (fun K hK => ?_) AllReadyH.nil
          go_simp
          go_at_call 22
          refine (s_all HS6.out).mono ?_
          rintro e w7 ⟨A7, c7, rfl, hf, hb⟩
          have HF7 := Aside0.mk (hf.held HS6.out.hi)
          have hS7 : w7.cell? ⟨wr.heap.size, 1, none⟩ = some (.int .i64 (rd_T33 l1 (i : Int)).f1) ∧ w7.cell? ⟨wr.heap.size, 3, none⟩ = some (.slice A3 (rd_T33 l1 (i : Int)).f3.length c3) := ⟨(hb.cell (World.block_lt_of_cell? w6 _ hS6.1)).trans hS6.1, (hb.cell (World.block_lt_of_cell? w6 _ hS6.2)).trans hS6.2⟩
          have HS7 := Aside0.mk (HS6.out.read hb)
          have HH7 := Aside0.mk (HH6.out.below hb)
          have HW7 := Aside0.mk (HW6.out.below hb)
          clear hf hb
          go_wp2_with fail
          refine hK.out _ _ hS7 (fun hHeld => ?_)
          clear hK K
          try simp only [Act.put, List.setIfInBounds_toArray, List.set_cons_zero, List.set_cons_succ, List.getElem_toArray, List.getElem_cons_zero, List.getElem_cons_succ]
          refine wpAnyH_ready (rs := [18]) (by kernel_rfl) (by simp) ?_
          refine AllReadyH.cons rfl (fun K hK => ?_) AllReadyH.nil
          go_simp
          go_at_call 26
          refine (s_lsame A7 c7 L' Aw cw L' w7 HF7.out.now HF7.out.1 HW7.out.now HW7.out.1 (by have := HS7.out.good.len; omega) HS7.out.good.small).mono ?_
          rintro e w8 ⟨rfl, hb⟩
          rw [decide_eq_true (rfl : L' = L')]
          have hS8 : w8.cell? ⟨wr.heap.size, 1, none⟩ = some (.int .i64 (rd_T33 l1 (i : Int)).f1) ∧ w8.cell? ⟨wr.heap.size, 3, none⟩ = some (.slice A3 (rd_T33 l1 (i : Int)).f3.length c3) := ⟨(hb.cell (World.block_lt_of_cell? w7 _ hS7.1)).trans hS7.1, (hb.cell (World.block_lt_of_cell? w7 _ hS7.2)).trans hS7.2⟩
          have HS8 := Aside0.mk (HS7.out.read hb)
          have HH8 := Aside0.mk (HH7.out.below hb)
          have HW8 := Aside0.mk (HW7.out.below hb)
          clear hb
          go_wp2_with fail
          refine hK.out _ _ hS8 (fun hHeld => ?_)
          clear hK K
          try simp only [Act.put, List.setIfInBounds_toArray, List.set_cons_zero, List.set_cons_succ, List.getElem_toArray, List.getElem_cons_zero, List.getElem_cons_succ]
          refine wpAnyH_take (i := 19) (v := ?_) rfl (by kernel_rfl) (by kernel_rfl) (by kernel_rfl) (fun _ _ _ h => h) (Or.inl ⟨by rfl, ?_⟩) (by assumption) ?_
          rotate_left
          · (intro w hSw; (try dsimp only at hSw); go_simp; all_goals (with_reducible rfl))
          try simp only [Act.put, List.setIfInBounds_toArray, List.set_cons_zero, List.set_cons_succ, List.getElem_toArray, List.getElem_cons_zero, List.getElem_cons_succ]
          refine wpAnyH_take (i := 20) (v := ?_) rfl (by kernel_rfl) (by kernel_rfl) (by kernel_rfl) (fun _ _ _ h => h) (Or.inl ⟨by rfl, ?_⟩) (by assumption) ?_
          rotate_left
          · (intro w hSw; (try dsimp only at hSw); go_simp; all_goals (with_reducible rfl))
          try simp only [Act.put, List.setIfInBounds_toArray, List.set_cons_zero, List.set_cons_succ, List.getElem_toArray, List.getElem_cons_zero, List.getElem_cons_succ]
          refine wpAnyH_take (i := 21) (v := ?_) rfl (by kernel_rfl) (by kernel_rfl) (by kernel_rfl) (fun _ _ _ h => h) (Or.inl ⟨by rfl, ?_⟩) (by assumption) ?_
          rotate_left
          · (intro w hSw; (try dsimp only at hSw); go_simp; all_goals (with_reducible rfl))
          try simp only [Act.put, List.setIfInBounds_toArray, List.set_cons_zero, List.set_cons_succ, List.getElem_toArray, List.getElem_cons_zero, List.getElem_cons_succ]
          refine wpAnyH_take (i := 23) (v := ?_) rfl (by kernel_rfl) (by kernel_rfl) (by kernel_rfl) (fun _ _ _ h => h) (Or.inl ⟨by rfl, ?_⟩) (by assumption) ?_
          rotate_left
          · (intro w hSw; (try dsimp only at hSw); go_simp; all_goals (with_reducible rfl))
          try simp only [Act.put, List.setIfInBounds_toArray, List.set_cons_zero, List.set_cons_succ, List.getElem_toArray, List.getElem_cons_zero, List.getElem_cons_succ]
          refine wpAnyH_ready (rs := [22]) (by kernel_rfl) (by simp) ?_
          refine AllReadyH.cons rfl (fun K hK => ?_) AllReadyH.nil
          go_simp
          go_at_call 13
          refine (s_changes HS8.out).mono ?_
          rintro e w9 ⟨rfl, hb⟩
          have hS9 : w9.cell? ⟨wr.heap.size, 1, none⟩ = some (.int .i64 (rd_T33 l1 (i : Int)).f1) ∧ w9.cell? ⟨wr.heap.size, 3, none⟩ = some (.slice A3 (rd_T33 l1 (i : Int)).f3.length c3) := ⟨(hb.cell (World.block_lt_of_cell? w8 _ hS8.1)).trans hS8.1, (hb.cell (World.block_lt_of_cell? w8 _ hS8.2)).trans hS8.2⟩
          have HS9 := Aside0.mk (HS8.out.read hb)
          have HH9 := Aside0.mk (HH8.out.below hb)
          have HW9 := Aside0.mk (HW8.out.below hb)
          clear hb
          go_wp2_with fail
          refine hK.out _ _ hS9 (fun hHeld => ?_)
          clear hK K
          try simp only [Act.put, List.setIfInBounds_toArray, List.set_cons_zero, List.set_cons_succ, List.getElem_toArray, List.getElem_cons_zero, List.getElem_cons_succ]
          refine wpAnyH_take (i := 24) (v := ?_) rfl (by kernel_rfl) (by kernel_rfl) (by kernel_rfl) (fun _ _ _ h => h) (Or.inl ⟨by rfl, ?_⟩) (by assumption) ?_
          rotate_left
          · (intro w hSw; (try dsimp only at hSw); go_simp; all_goals (with_reducible rfl))
          try simp only [Act.put, List.setIfInBounds_toArray, List.set_cons_zero, List.set_cons_succ, List.getElem_toArray, List.getElem_cons_zero, List.getElem_cons_succ]
          refine wpAnyH_take (i := 25) (v := ?_) rfl (by kernel_rfl) (by kernel_rfl) (by kernel_rfl) (fun _ _ _ h => h) (Or.inl ⟨by rfl, ?_⟩) (by assumption) ?_
          rotate_left
          · (intro w hSw; (try dsimp only at hSw); go_simp; all_goals (with_reducible rfl))
          try simp only [Act.put, List.setIfInBounds_toArray, List.set_cons_zero, List.set_cons_succ, List.getElem_toArray, List.getElem_cons_zero, List.getElem_cons_succ]
          refine wpAnyH_take (i := 26) (v := ?_) rfl (by kernel_rfl) (by kernel_rfl) (by kernel_rfl) (fun _ _ _ h => h) (Or.inl ⟨by rfl, ?_⟩) (by assumption) ?_
          rotate_left
          · (intro w hSw; (try dsimp only at hSw); go_simp; all_goals (with_reducible rfl))
          try simp only [Act.put, List.setIfInBounds_toArray, List.set_cons_zero, List.set_cons_succ, List.getElem_toArray, List.getElem_cons_zero, List.getElem_cons_succ]
          refine wpAnyH_done (by kernel_rfl) ?_ _
          go_wp2
          go_roundg j
          case measure => have := HJ.out; omega
          case rel =>
            have e0 := HI.out
            have e1 := HJ.out
            exact ⟨i + 1, by simp, ⟨by omega⟩, ⟨_, _, _, HS9.out.more (by omega), HH9.out⟩⟩
      · have q3 : decide ((i : Int) < (l1.length : Int)) = true := decide_eq_true (by omega)
        have q4 : decide ((i : Int) < 20) = false := decide_eq_false (by omega)
        have q1 := eq_true (show (i : Int) < (l1.length : Int) by omega)
        have q2 := eq_true hlt
        have q5 := eq_false h40
        clear hlt h40
        go_wp2_with fail
        refine (back_none HS.out.st).mono ?_
        rintro e wa ⟨rfl, hb⟩
        have HSa := Aside0.mk (HS.out.read hb)
        clear hb
        go_wp2_with fail
        refine (s_level HSa.out).mono ?_
        rintro e wb ⟨rfl, hb⟩
        have HSb := Aside0.mk (HSa.out.read hb)
        clear hb
        go_wp2_with fail
        refine (fixed_calls wb).mono ?_
        rintro e wf ⟨rfl, hb⟩
        have HBF := Aside0.mk (HSb.out.read hb).below
        go_wp2
        go_ret
        exact ⟨rfl, HB1.out.trans (HBF.out.mono HB1.out.size)⟩
    · have q3 : decide ((i : Int) < (l1.length : Int)) = false := decide_eq_false (by omega)
      have q1 := eq_false (show ¬ (i : Int) < (l1.length : Int) by omega)
      have q2 := eq_false hlt
      clear hlt
      go_wp2_with fail
      refine (back_none HS.out.st).mono ?_
      rintro e wa ⟨rfl, hb⟩
      have HSa := Aside0.mk (HS.out.read hb)
      clear hb
      go_wp2_with fail
      refine (s_level HSa.out).mono ?_
      rintro e wb ⟨rfl, hb⟩
      have HSb := Aside0.mk (HSa.out.read hb)
      clear hb
      go_wp2_with fail
      refine (fixed_calls wb).mono ?_
      rintro e wf ⟨rfl, hb⟩
      have HBF := Aside0.mk (HSb.out.read hb).below
      go_wp2
      go_ret
      exact ⟨rfl, HB1.out.trans (HBF.out.mono HB1.out.size)⟩
end Go.Proofs.Ytcjachhdoogbaaa.PT
