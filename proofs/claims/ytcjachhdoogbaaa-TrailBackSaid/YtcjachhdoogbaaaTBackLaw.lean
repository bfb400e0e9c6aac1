/- TrailBack: the law's walk: it answers true. No conditions. -/
import Derived.Test.YtcjachhdoogbaaaTMarks
set_option linter.unusedVariables false
set_option linter.unusedSimpArgs false
namespace Go.Proofs.Ytcjachhdoogbaaa.PT
open Go.RowKit Go.Proofs.YtcjachhdoogbaaaW.PrintWords Go.Proofs.YtcjachhdoogbaaaW.PrintLast Go.Proofs.YtcjachhdoogbaaaW.PrintMore
set_option maxRecDepth 100000
set_option maxHeartbeats 4000000
theorem backlaw_calls (A0 : Option Addr) (c0 : Nat) (l0 : List (List Int)) (A1 : Option Addr) (c1 : Nat) (l1 : List S33) (z2 : Int) (w : World) (hr0 : Kd.C kI w A0 l0.length l0) (hc0 : l0.length ≤ c0) (hr1 : Kd.C k33 w A1 l1.length l1) (hc1 : l1.length ≤ c1) :
    Calls Try.prog 5 #[.slice A0 l0.length c0, .slice A1 l1.length c1, .int .i64 z2] w fun e w' => e = .returned (.bool true) ∧ Below w.heap.size w w' := by
  have HR0 := Aside0.mk hr0
  have HC0 := Aside0.mk hc0
  have HR1 := Aside0.mk hr1
  have HC1 := Aside0.mk hc1
  clear hr0 hc0 hr1 hc1
  have hu25 := Try.underlying25
  have hu3 := Try.underlying3
  go_enter Try.func5, Try.ntmps5
  go_wp2_with fail
  refine (s_doms A0 c0 l0 w HR0.out HC0.out).mono ?_
  rintro e w1 ⟨AD, cD, D, rfl, hf, hg, _, hb⟩
  have HB1 := Aside0.mk hb
  have HF := Aside0.mk hf
  have HG := Aside0.mk hg
  clear hb hf hg
  go_wp2_with fail
  refine (s_new AD cD D w1 (Kd.F_now HF.out.2) HF.out.1 HG.out).mono ?_
  rintro e w2 ⟨g, T, rfl, hs⟩
  have HS2 := Aside0.mk hs
  have HH2 := Aside0.mk (((Held.of_C (T := T) heap33 HR1.out HC1.out hs.lo HB1.out.size).below HB1.out).below (hs.below))
  clear hs
  clear HF HR0 HC0 HR1 HC1
  go_wp2_with fail
  refine (s_all HS2.out).mono ?_
  rintro e w3 ⟨Aw, cw, rfl, hf, hb⟩
  have HS := Aside0.mk (HS2.out.read hb)
  have HH := Aside0.mk (HH2.out.below hb)
  have HW := Aside0.mk (hf.held HS2.out.hi)
  clear hf hb HS2 HH2
  obtain ⟨mv, hmv, hm0, hm7⟩ := and_seven z2
  obtain ⟨mm, rfl⟩ : ∃ mm : Nat, mv = (mm : Int) := ⟨mv.toNat, by omega⟩
  obtain ⟨nn, hnn⟩ : ∃ nn : Nat, nn = mm + 1 := ⟨_, rfl⟩
  have HM7 := Aside0.mk (show 1 ≤ nn ∧ nn ≤ 8 by omega)
  have HW1 := Aside0.mk (show wrap64 (1 + (mm : Int)) = (nn : Int) by rw [wrap_id _ (by omega)]; omega)
  clear hm0 hm7 hnn
  go_wp2_with fail
  rw [HW1.out]
  go_loopg [11] nn (fun j v11 wr => ∃ i : Nat, v11 = .int .i64 (i : Int) ∧ Aside0 (i + j = nn) ∧ Aside0 (∃ L C M T, Stat T w1 wr w1.heap.size g L C M (40 * i) ∧ (undo L C 0 = D ∧ Marks M C ∧ M.length = i) ∧ Held k33 T wr A1 c1 l1 ∧ Held kL T wr Aw cw D))
  case atStart => exact ⟨0, rfl, ⟨Nat.zero_add _⟩, ⟨D, [], [], T, HS.out, ⟨rfl, ⟨fun m hm => (by cases hm), fun m M' e => (by simp at e), fun _ => rfl⟩, rfl⟩, HH.out, HW.out⟩⟩
  case round =>
    obtain ⟨i, rfl, HI, HX⟩ := hrel
    obtain ⟨L, C, M, T, hs, hp, hh, hw⟩ := HX.out
    have HS := Aside0.mk hs
    have HP := Aside0.mk hp
    have HH := Aside0.mk hh
    have HW := Aside0.mk hw
    clear hs hp hh hw HX
    by_cases hlt : (i : Int) < (nn : Int)
    · have q1 := eq_true hlt
      have q3 : decide ((i : Int) < (nn : Int)) = true := decide_eq_true hlt
      obtain ⟨jo, hj⟩ : ∃ j, gk = j + 1 := ⟨gk - 1, by have := HI.out; omega⟩
      have HJ := Aside0.mk hj
      have HLT := Aside0.mk hlt
      clear hj hlt
      go_wp2_with fail
      refine (s_mark HS.out (by have := HP.out.2.2; have := HLT.out; have := HM7.out; omega)).mono ?_
      rintro e w4 ⟨T4, rfl, hs, hk⟩
      have HS4 := Aside0.mk hs
      have HH4 := Aside0.mk (hk _ _ _ _ HH.out)
      have HW4 := Aside0.mk (hk _ _ _ _ HW.out)
      obtain ⟨M1, hM1⟩ : ∃ M1, M1 = M ++ [(C.length : Int)] := ⟨_, rfl⟩
      have HM1 := Aside0.mk (show Marks M1 C ∧ M1 ≠ [] ∧ M1.length = i + 1 from ⟨by rw [hM1]; exact HP.out.2.1.mark, by rw [hM1]; simp, by rw [hM1, List.length_append, List.length_singleton, HP.out.2.2]⟩)
      rw [← hM1] at HS4
      have HU := Aside0.mk HP.out.1
      clear hs hk HS HH HW HP hM1
      go_wp2_with fail
      go_loopg [12] 40 (fun jq v12 wr => ∃ q : Nat, v12 = .int .i64 (q : Int) ∧ Aside0 (40 ≤ q + jq ∧ jq ≤ 40 ∧ i ≤ q ∧ q ≤ 48) ∧ Aside0 (∃ L C T, Stat T w1 wr w1.heap.size g L C M1 (40 * i + (40 - jq)) ∧ undo L C 0 = D ∧ Held k33 T wr A1 c1 l1 ∧ Held kL T wr Aw cw D))
      case atStart => exact ⟨i, rfl, ⟨⟨by omega, by omega, by omega, by have := HLT.out; have := HM7.out; omega⟩⟩, ⟨L, C, T4, HS4.out, HU.out, HH4.out, HW4.out⟩⟩
      case round =>
        obtain ⟨q, rfl, HQ, HX⟩ := hrel
        obtain ⟨L, C, T, hs, hu, hh, hw⟩ := HX.out
        have HS := Aside0.mk hs
        have HU := Aside0.mk hu
        have HH := Aside0.mk hh
        have HW := Aside0.mk hw
        clear hs hu hh hw HX
        by_cases hql : q < l1.length
        · by_cases h40 : q < 40
          · have hi1 : (q : Int) < (l1.length : Int) := by omega
            obtain ⟨ad, A2, c2, A3, c3, e, hx0, hx1, hx2, hx3, hh2, hh3⟩ := at_H33 HH.out (q : Int) (by omega) hi1
            cases e
            rw [Int.toNat_natCast] at hx0 hx1 hx2 hx3
            have H2 := Aside0.mk hh2
            have q10 := eq_true hi1
            have q11 := eq_true hql
            have q12 : decide ((q : Int) < (l1.length : Int)) = true := decide_eq_true hi1
            have q13 : decide ((q : Int) < 40) = true := decide_eq_true (by omega)
            have q14 := eq_true h40
            obtain ⟨ji, hj⟩ : ∃ j, gk = j + 1 := ⟨gk - 1, by have := HQ.out; omega⟩
            have HJI := Aside0.mk hj
            clear hj
            obtain ⟨kv, hkv, hk0, hk7⟩ := and_seven (rd_T33 l1 (q : Int)).f1
            have HBN := Aside0.mk (show ¬ T (ad.add (q * 4)).block from by rw [at_block]; exact at_H33n HH.out (by omega))
            have H40 := Aside0.mk h40
            clear hx0 hx3 hh2 hh3 hk0 hk7
            have hwr : wrap64 ((q : Int) + (nn : Int)) = ((q + nn : Nat) : Int) := by rw [wrap_id _ (by have := HM7.out; omega)]; omega
            go_wp2_with fail
            have hS0 : wr.drew.cell? ⟨(ad.add (q * 4)).block, (ad.add (q * 4)).off + 1, none⟩ = some (.int .i64 (rd_T33 l1 (q : Int)).f1) ∧ wr.drew.cell? ⟨(ad.add (q * 4)).block, (ad.add (q * 4)).off + 2, none⟩ = some (.slice A2 (rd_T33 l1 (q : Int)).f2.length c2) := ⟨hx1, hx2⟩
            have HS0 := Aside0.mk (HS.out.read (below_drew (Below.refl wr.heap.size wr)))
            have HH0 := Aside0.mk (HH.out.below (below_drew (Below.refl wr.heap.size wr)))
            have HW0 := Aside0.mk (HW.out.below (below_drew (Below.refl wr.heap.size wr)))
            have HD0 := Aside0.mk (H2.out.below (below_drew (Below.refl wr.heap.size wr)))
            clear hx1 hx2 HS HH HW H2
            refine wp_region_held_drew (S := (fun W => W.cell? ⟨(ad.add (q * 4)).block, (ad.add (q * 4)).off + 1, none⟩ = some (.int .i64 (rd_T33 l1 (q : Int)).f1) ∧ W.cell? ⟨(ad.add (q * 4)).block, (ad.add (q * 4)).off + 2, none⟩ = some (.slice A2 (rd_T33 l1 (q : Int)).f2.length c2))) (by kernel_rfl) hS0 (fun hHeld => ?_)
            refine wpAnyH_take (i := 0) (v := ?_) rfl (by kernel_rfl) (by kernel_rfl) (by kernel_rfl) (fun _ _ _ h => h) (Or.inl ⟨by rfl, ?_⟩) (by assumption) ?_
            rotate_left
            · (intro w hSw; (try dsimp only at hSw); go_simp; all_goals (with_reducible rfl))
            try simp only [Act.put, List.setIfInBounds_toArray, List.set_cons_zero, List.set_cons_succ, List.getElem_toArray, List.getElem_cons_zero, List.getElem_cons_succ]
            refine wpAnyH_take (i := 1) (v := ?_) rfl (by kernel_rfl) (by kernel_rfl) (by kernel_rfl) (fun _ _ _ h => h) (Or.inl ⟨by rfl, ?_⟩) (by assumption) ?_
            rotate_left
            · (intro w hSw; (try dsimp only at hSw); go_simp; all_goals (with_reducible rfl))
            try simp only [Act.put, List.setIfInBounds_toArray, List.set_cons_zero, List.set_cons_succ, List.getElem_toArray, List.getElem_cons_zero, List.getElem_cons_succ]
            refine wpAnyH_take (i := 2) (v := ?_) rfl (by kernel_rfl) (by kernel_rfl) (by kernel_rfl) (fun _ _ _ h => h) (Or.inl ⟨by rfl, ?_⟩) (by assumption) ?_
            rotate_left
            · (intro w hSw; (try dsimp only at hSw); go_simp; all_goals (with_reducible rfl))
            try simp only [Act.put, List.setIfInBounds_toArray, List.set_cons_zero, List.set_cons_succ, List.getElem_toArray, List.getElem_cons_zero, List.getElem_cons_succ]
            refine wpAnyH_take (i := 3) (v := ?_) rfl (by kernel_rfl) (by kernel_rfl) (by kernel_rfl) (fun _ _ _ h => h) (Or.inl ⟨by rfl, ?_⟩) (by assumption) ?_
            rotate_left
            · (intro w hSw; (try dsimp only at hSw); go_simp; all_goals (with_reducible rfl))
            try simp only [Act.put, List.setIfInBounds_toArray, List.set_cons_zero, List.set_cons_succ, List.getElem_toArray, List.getElem_cons_zero, List.getElem_cons_succ]
            refine wpAnyH_take (i := 4) (v := ?_) rfl (by kernel_rfl) (by kernel_rfl) (by kernel_rfl) (fun _ _ _ h => h) (Or.inl ⟨by rfl, ?_⟩) (by assumption) ?_
            rotate_left
            · (intro w hSw; (try dsimp only at hSw); go_simp; all_goals (with_reducible rfl))
            try simp only [Act.put, List.setIfInBounds_toArray, List.set_cons_zero, List.set_cons_succ, List.getElem_toArray, List.getElem_cons_zero, List.getElem_cons_succ]
            refine wpAnyH_take (i := 5) (v := ?_) rfl (by kernel_rfl) (by kernel_rfl) (by kernel_rfl) (fun _ _ _ h => h) (Or.inl ⟨by rfl, ?_⟩) (by assumption) ?_
            rotate_left
            · (intro w hSw; (try dsimp only at hSw); go_simp; all_goals (with_reducible rfl))
            try simp only [Act.put, List.setIfInBounds_toArray, List.set_cons_zero, List.set_cons_succ, List.getElem_toArray, List.getElem_cons_zero, List.getElem_cons_succ]
            refine wpAnyH_take (i := 6) (v := ?_) rfl (by kernel_rfl) (by kernel_rfl) (by kernel_rfl) (fun _ _ _ h => h) (Or.inl ⟨by rfl, ?_⟩) (by assumption) ?_
            rotate_left
            · (intro w hSw; (try dsimp only at hSw); go_simp; all_goals (with_reducible rfl))
            try simp only [Act.put, List.setIfInBounds_toArray, List.set_cons_zero, List.set_cons_succ, List.getElem_toArray, List.getElem_cons_zero, List.getElem_cons_succ]
            refine wpAnyH_take (i := 7) (v := ?_) rfl (by kernel_rfl) (by kernel_rfl) (by kernel_rfl) (fun _ _ _ h => h) (Or.inl ⟨by rfl, ?_⟩) (by assumption) ?_
            rotate_left
            · (intro w hSw; (try dsimp only at hSw); go_simp; all_goals (with_reducible rfl))
            try simp only [Act.put, List.setIfInBounds_toArray, List.set_cons_zero, List.set_cons_succ, List.getElem_toArray, List.getElem_cons_zero, List.getElem_cons_succ]
            refine wpAnyH_take (i := 8) (v := ?_) rfl (by kernel_rfl) (by kernel_rfl) (by kernel_rfl) (fun _ _ _ h => h) (Or.inl ⟨by rfl, ?_⟩) (by assumption) ?_
            rotate_left
            · (intro w hSw; (try dsimp only at hSw); go_simp; all_goals (with_reducible rfl))
            try simp only [Act.put, List.setIfInBounds_toArray, List.set_cons_zero, List.set_cons_succ, List.getElem_toArray, List.getElem_cons_zero, List.getElem_cons_succ]
            refine wpAnyH_take (i := 9) (v := ?_) rfl (by kernel_rfl) (by kernel_rfl) (by kernel_rfl) (fun _ _ _ h => h) (Or.inl ⟨by rfl, ?_⟩) (by assumption) ?_
            rotate_left
            · (intro w hSw; (try dsimp only at hSw); go_simp; all_goals (with_reducible rfl))
            try simp only [Act.put, List.setIfInBounds_toArray, List.set_cons_zero, List.set_cons_succ, List.getElem_toArray, List.getElem_cons_zero, List.getElem_cons_succ]
            refine wpAnyH_take (i := 10) (v := ?_) rfl (by kernel_rfl) (by kernel_rfl) (by kernel_rfl) (fun _ _ _ h => h) (Or.inl ⟨by rfl, ?_⟩) (by assumption) ?_
            rotate_left
            · (intro w hSw; (try dsimp only at hSw); go_simp; all_goals (with_reducible rfl))
            try simp only [Act.put, List.setIfInBounds_toArray, List.set_cons_zero, List.set_cons_succ, List.getElem_toArray, List.getElem_cons_zero, List.getElem_cons_succ]
            refine wpAnyH_take (i := 11) (v := ?_) rfl (by kernel_rfl) (by kernel_rfl) (by kernel_rfl) (fun _ _ _ h => h) (Or.inl ⟨by rfl, ?_⟩) (by assumption) ?_
            rotate_left
            · (intro w hSw; (try dsimp only at hSw); go_simp; all_goals (with_reducible rfl))
            try simp only [Act.put, List.setIfInBounds_toArray, List.set_cons_zero, List.set_cons_succ, List.getElem_toArray, List.getElem_cons_zero, List.getElem_cons_succ]
            refine wpAnyH_take (i := 12) (v := ?_) rfl (by kernel_rfl) (by kernel_rfl) (by kernel_rfl) (fun _ _ _ h => h) (Or.inl ⟨by rfl, ?_⟩) (by assumption) ?_
            rotate_left
            · (intro w hSw; (try dsimp only at hSw); go_simp; all_goals (with_reducible rfl))
            try simp only [Act.put, List.setIfInBounds_toArray, List.set_cons_zero, List.set_cons_succ, List.getElem_toArray, List.getElem_cons_zero, List.getElem_cons_succ]
            refine wpAnyH_take (i := 13) (v := ?_) rfl (by kernel_rfl) (by kernel_rfl) (by kernel_rfl) (fun _ _ _ h => h) (Or.inl ⟨by rfl, ?_⟩) (by assumption) ?_
            rotate_left
            · (intro w hSw; (try dsimp only at hSw); go_simp; all_goals (with_reducible rfl))
            try simp only [Act.put, List.setIfInBounds_toArray, List.set_cons_zero, List.set_cons_succ, List.getElem_toArray, List.getElem_cons_zero, List.getElem_cons_succ]
            refine wpAnyH_take (i := 14) (v := ?_) rfl (by kernel_rfl) (by kernel_rfl) (by kernel_rfl) (fun _ _ _ h => h) (Or.inl ⟨by rfl, ?_⟩) (by assumption) ?_
            rotate_left
            · (intro w hSw; (try dsimp only at hSw); go_simp; all_goals (with_reducible rfl))
            try simp only [Act.put, List.setIfInBounds_toArray, List.set_cons_zero, List.set_cons_succ, List.getElem_toArray, List.getElem_cons_zero, List.getElem_cons_succ]
            refine wpAnyH_take (i := 15) (v := ?_) rfl (by kernel_rfl) (by kernel_rfl) (by kernel_rfl) (fun _ _ _ h => h) (Or.inl ⟨by rfl, ?_⟩) (by assumption) ?_
            rotate_left
            · (intro w hSw; (try dsimp only at hSw); go_simp; all_goals (with_reducible rfl))
            try simp only [Act.put, List.setIfInBounds_toArray, List.set_cons_zero, List.set_cons_succ, List.getElem_toArray, List.getElem_cons_zero, List.getElem_cons_succ]
            refine wpAnyH_take (i := 17) (v := ?_) rfl (by kernel_rfl) (by kernel_rfl) (by kernel_rfl) (fun _ _ _ h => h) (Or.inl ⟨by rfl, ?_⟩) (by assumption) ?_
            rotate_left
            · (intro w hSw; (try dsimp only at hSw); go_simp; all_goals (with_reducible rfl))
            try simp only [Act.put, List.setIfInBounds_toArray, List.set_cons_zero, List.set_cons_succ, List.getElem_toArray, List.getElem_cons_zero, List.getElem_cons_succ]
            refine wpAnyH_take (i := 18) (v := ?_) rfl (by kernel_rfl) (by kernel_rfl) (by kernel_rfl) (fun _ _ _ h => h) (Or.inl ⟨by rfl, ?_⟩) (by assumption) ?_
            rotate_left
            · (intro w hSw; (try dsimp only at hSw); go_simp; all_goals (with_reducible rfl))
            try simp only [Act.put, List.setIfInBounds_toArray, List.set_cons_zero, List.set_cons_succ, List.getElem_toArray, List.getElem_cons_zero, List.getElem_cons_succ]
            refine wpAnyH_take (i := 19) (v := ?_) rfl (by kernel_rfl) (by kernel_rfl) (by kernel_rfl) (fun _ _ _ h => h) (Or.inl ⟨by rfl, ?_⟩) (by assumption) ?_
            rotate_left
            · (intro w hSw; (try dsimp only at hSw); go_simp; all_goals (with_reducible rfl))
            try simp only [Act.put, List.setIfInBounds_toArray, List.set_cons_zero, List.set_cons_succ, List.getElem_toArray, List.getElem_cons_zero, List.getElem_cons_succ]
            refine wpAnyH_take (i := 20) (v := ?_) rfl (by kernel_rfl) (by kernel_rfl) (by kernel_rfl) (fun _ _ _ h => h) (Or.inl ⟨by rfl, ?_⟩) (by assumption) ?_
            rotate_left
            · (intro w hSw; (try dsimp only at hSw); go_simp; all_goals (with_reducible rfl))
            try simp only [Act.put, List.setIfInBounds_toArray, List.set_cons_zero, List.set_cons_succ, List.getElem_toArray, List.getElem_cons_zero, List.getElem_cons_succ]
            refine wpAnyH_take (i := 21) (v := ?_) rfl (by kernel_rfl) (by kernel_rfl) (by kernel_rfl) (fun _ _ _ h => h) (Or.inl ⟨by rfl, ?_⟩) (by assumption) ?_
            rotate_left
            · (intro w hSw; (try dsimp only at hSw); go_simp; all_goals (with_reducible rfl))
            try simp only [Act.put, List.setIfInBounds_toArray, List.set_cons_zero, List.set_cons_succ, List.getElem_toArray, List.getElem_cons_zero, List.getElem_cons_succ]
            refine wpAnyH_ready (rs := [16]) (by kernel_rfl) (by simp) ?_
            refine AllReadyH.cons rfl (fun K hK => ?_) AllReadyH.nil
            go_simp
            go_at_call 12
            refine (s_get kv HS0.out).mono ?_
            rintro e w5 ⟨Ag, cg, rfl, hf, hb⟩
            have HG5 := Aside0.mk (hf.held HS0.out.hi)
            have hS5 : w5.cell? ⟨(ad.add (q * 4)).block, (ad.add (q * 4)).off + 1, none⟩ = some (.int .i64 (rd_T33 l1 (q : Int)).f1) ∧ w5.cell? ⟨(ad.add (q * 4)).block, (ad.add (q * 4)).off + 2, none⟩ = some (.slice A2 (rd_T33 l1 (q : Int)).f2.length c2) := ⟨(hb.cell (World.block_lt_of_cell? wr.drew _ hS0.1)).trans hS0.1, (hb.cell (World.block_lt_of_cell? wr.drew _ hS0.2)).trans hS0.2⟩
            have HS5 := Aside0.mk (HS0.out.read hb)
            have HH5 := Aside0.mk (HH0.out.below hb)
            have HW5 := Aside0.mk (HW0.out.below hb)
            have HD5 := Aside0.mk (HD0.out.below hb)
            clear hf hb
            go_wp2_with fail
            refine hK.out _ _ hS5 (fun hHeld => ?_)
            clear hK K
            try simp only [Act.put, List.setIfInBounds_toArray, List.set_cons_zero, List.set_cons_succ, List.getElem_toArray, List.getElem_cons_zero, List.getElem_cons_succ]
            refine wpAnyH_ready (rs := [22]) (by kernel_rfl) (by simp) ?_
            refine AllReadyH.cons rfl (fun K hK => ?_) AllReadyH.nil
            go_simp
            go_at_call 15
            refine (s_small A2 c2 _ w5 HD5.out.now HD5.out.1).mono ?_
            rintro e w6 ⟨Ad, cd, d, rfl, hf, hdom, hdl, hb⟩
            have HE6 := Aside0.mk (hf.held HS5.out.hi)
            have HDOM := Aside0.mk hdom
            have hS6 : w6.cell? ⟨(ad.add (q * 4)).block, (ad.add (q * 4)).off + 1, none⟩ = some (.int .i64 (rd_T33 l1 (q : Int)).f1) ∧ w6.cell? ⟨(ad.add (q * 4)).block, (ad.add (q * 4)).off + 2, none⟩ = some (.slice A2 (rd_T33 l1 (q : Int)).f2.length c2) := ⟨(hb.cell (World.block_lt_of_cell? w5 _ hS5.1)).trans hS5.1, (hb.cell (World.block_lt_of_cell? w5 _ hS5.2)).trans hS5.2⟩
            have HS6 := Aside0.mk (HS5.out.read hb)
            have HH6 := Aside0.mk (HH5.out.below hb)
            have HW6 := Aside0.mk (HW5.out.below hb)
            have HG6 := Aside0.mk (HG5.out.below hb)
            clear hf hb hdom hdl
            go_wp2_with fail
            refine hK.out _ _ hS6 (fun hHeld => ?_)
            clear hK K
            try simp only [Act.put, List.setIfInBounds_toArray, List.set_cons_zero, List.set_cons_succ, List.getElem_toArray, List.getElem_cons_zero, List.getElem_cons_succ]
            refine wpAnyH_ready (rs := [23]) (by kernel_rfl) (by simp) ?_
            refine AllReadyH.cons rfl (fun K hK => ?_) AllReadyH.nil
            go_simp
            go_at_call 17
            refine (s_pick Ag cg (getL L kv) Ad cd d true w6 HG6.out.now HG6.out.1 HE6.out.now HE6.out.1 (getL_dom L HS6.out.good.dom kv) HDOM.out).mono ?_
            rintro e w7 ⟨Ap, cp, dp, rfl, hf, hpl, _, hb⟩
            have HP7 := Aside0.mk (hf.held HS6.out.hi)
            have HPL := Aside0.mk hpl
            have hS7 : w7.cell? ⟨(ad.add (q * 4)).block, (ad.add (q * 4)).off + 1, none⟩ = some (.int .i64 (rd_T33 l1 (q : Int)).f1) ∧ w7.cell? ⟨(ad.add (q * 4)).block, (ad.add (q * 4)).off + 2, none⟩ = some (.slice A2 (rd_T33 l1 (q : Int)).f2.length c2) := ⟨(hb.cell (World.block_lt_of_cell? w6 _ hS6.1)).trans hS6.1, (hb.cell (World.block_lt_of_cell? w6 _ hS6.2)).trans hS6.2⟩
            have HS7 := Aside0.mk (HS6.out.read hb)
            have HH7 := Aside0.mk (HH6.out.below hb)
            have HW7 := Aside0.mk (HW6.out.below hb)
            clear hf hb hpl
            go_wp2_with fail
            refine hK.out _ _ hS7 (fun hHeld => ?_)
            clear hK K
            try simp only [Act.put, List.setIfInBounds_toArray, List.set_cons_zero, List.set_cons_succ, List.getElem_toArray, List.getElem_cons_zero, List.getElem_cons_succ]
            refine wpAnyH_ready (rs := [24]) (by kernel_rfl) (by simp) ?_
            refine AllReadyH.cons rfl (fun K hK => ?_) AllReadyH.nil
            go_simp
            go_at_call 14
            obtain ⟨L', C', r, hset, _⟩ := setS_f KK L C kv dp (by rw [kk]; omega) HS7.out.good.dom (by have := HPL.out; omega)
            refine (s_set2 (w0 := w1) kv Ap cp dp L' C' r HS7.out HP7.out (by have := HPL.out; omega) (by have := HQ.out; have := HLT.out; have := HM7.out; omega) hset).mono ?_
            rintro e w8 ⟨T8, rfl, hs8, hk8, hkk⟩
            have hS8 : w8.cell? ⟨(ad.add (q * 4)).block, (ad.add (q * 4)).off + 1, none⟩ = some (.int .i64 (rd_T33 l1 (q : Int)).f1) ∧ w8.cell? ⟨(ad.add (q * 4)).block, (ad.add (q * 4)).off + 2, none⟩ = some (.slice A2 (rd_T33 l1 (q : Int)).f2.length c2) := ⟨kept_cell hkk HBN.out hS7.1, kept_cell hkk HBN.out hS7.2⟩
            have HS8 := Aside0.mk hs8
            have HW8 := Aside0.mk (hk8 _ _ _ _ HW7.out)
            have HH8 := Aside0.mk (hk8 _ _ _ _ HH7.out)
            have HU8 := Aside0.mk (((setS_good (by rw [kk]; omega) HS7.out.good (by have := HPL.out; omega) hset).2.2.1 0 (Nat.zero_le _)).trans HU.out)
            clear hs8 hk8 hkk hset
            go_wp2_with fail
            refine hK.out _ _ hS8 (fun hHeld => ?_)
            clear hK K
            try simp only [Act.put, List.setIfInBounds_toArray, List.set_cons_zero, List.set_cons_succ, List.getElem_toArray, List.getElem_cons_zero, List.getElem_cons_succ]
            refine wpAnyH_done (by kernel_rfl) ?_ _
            go_wp2
            go_roundg ji
            case measure => have := HJI.out; omega
            case rel =>
              have e1 := HJI.out
              have e2 := HQ.out
              have e3 := HM7.out
              have e4 := H40.out
              exact ⟨q + nn, by first | rfl | rw [hwr] | simp, ⟨⟨by omega, by omega, by omega, by omega⟩⟩, ⟨L', C', T8, HS8.out.more (by omega), HU8.out, HH8.out, HW8.out⟩⟩
          · have q12 : decide ((q : Int) < (l1.length : Int)) = true := decide_eq_true (by omega)
            have q13 : decide ((q : Int) < 40) = false := decide_eq_false (by omega)
            have q10 := eq_true (show (q : Int) < (l1.length : Int) by omega)
            have q11 := eq_true hql
            have q14 := eq_false h40
            clear hql h40
            have hwi : wrap64 ((i : Int) + 1) = (i : Int) + 1 := wrap_id _ (by have := HLT.out; have := HM7.out; omega)
            go_wp2
            go_roundg jo
            case measure => have := HJ.out; omega
            case rel =>
              have e0 := HI.out
              have e1 := HJ.out
              have e2 := HQ.out
              exact ⟨i + 1, by rw [hwi]; simp, ⟨by omega⟩, ⟨L, C, M1, T, HS.out.more (by omega), ⟨HU.out, HM1.out.1.set HM1.out.2.1, HM1.out.2.2⟩, HH.out, HW.out⟩⟩
        · have q12 : decide ((q : Int) < (l1.length : Int)) = false := decide_eq_false (by omega)
          have q10 := eq_false (show ¬ (q : Int) < (l1.length : Int) by omega)
          have q11 := eq_false hql
          clear hql
          have hwi : wrap64 ((i : Int) + 1) = (i : Int) + 1 := wrap_id _ (by have := HLT.out; have := HM7.out; omega)
          go_wp2
          go_roundg jo
          case measure => have := HJ.out; omega
          case rel =>
            have e0 := HI.out
            have e1 := HJ.out
            have e2 := HQ.out
            exact ⟨i + 1, by rw [hwi]; simp, ⟨by omega⟩, ⟨L, C, M1, T, HS.out.more (by omega), ⟨HU.out, HM1.out.1.set HM1.out.2.1, HM1.out.2.2⟩, HH.out, HW.out⟩⟩
    · have q1 := eq_false hlt
      have q3 : decide ((i : Int) < (nn : Int)) = false := decide_eq_false hlt
      have HLT := Aside0.mk hlt
      clear hlt
      have hin : M.length = nn := by have := HLT.out; have := HI.out; have := HP.out.2.2; omega
      have HMN := Aside0.mk hin
      clear hin
      go_wp2_with fail
      refine (s_level HS.out).mono ?_
      rintro e w4 ⟨rfl, hb⟩
      rw [HMN.out]
      have HS4 := Aside0.mk (HS.out.read hb)
      have HW4 := Aside0.mk (HW.out.below hb)
      have HP4 := Aside0.mk (And.intro HP.out.1 HP.out.2.1)
      have HN := Aside0.mk (show 40 * i ≤ 320 by have := HI.out; have := HM7.out; omega)
      clear hb HS HW HH HP
      go_wp2_with fail
      go_loopg [13] nn (fun j v13 wr => ∃ u : Nat, v13 = .int .i64 (u : Int) ∧ Aside0 (u + j = nn) ∧ Aside0 (∃ L C M T, Stat T w1 wr w1.heap.size g L C M 320 ∧ (undo L C 0 = D ∧ Marks M C ∧ M.length = j) ∧ Held kL T wr Aw cw D))
      case atStart => exact ⟨0, rfl, ⟨Nat.zero_add _⟩, ⟨L, C, M, T, HS4.out.more HN.out, ⟨HP4.out.1, HP4.out.2, HMN.out⟩, HW4.out⟩⟩
      case round =>
        obtain ⟨u, rfl, HIU, HX⟩ := hrel
        obtain ⟨L, C, M, T, hs, hp, hw⟩ := HX.out
        have HS := Aside0.mk hs
        have HP := Aside0.mk hp
        have HW := Aside0.mk hw
        clear hs hp hw HX
        by_cases hlu : u < nn
        · have q21 := eq_true hlu
          have q22 : decide ((u : Int) < (nn : Int)) = true := decide_eq_true (by omega)
          have q24 := eq_true (show (u : Int) < (nn : Int) by omega)
          obtain ⟨ju, hj⟩ : ∃ j, gk = j + 1 := ⟨gk - 1, by have := HIU.out; omega⟩
          obtain ⟨M', m, rfl⟩ := last_of (M := M) (by have := HP.out.2.2; omega)
          have HJ := Aside0.mk hj
          have hwu : wrap64 ((u : Int) + 1) = (u : Int) + 1 := wrap_id _ (by have := HM7.out; omega)
          have HLU := Aside0.mk hlu
          clear hj hlu
          go_wp2_with fail
          refine (s_back m HS.out HP.out.2.1.back.1 (by have := HP.out.2.2; rw [List.length_append] at this; have := HIU.out; have := HM7.out; omega) (by omega)).mono ?_
          rintro e w5 ⟨T5, rfl, hs, hk⟩
          have HS5 := Aside0.mk hs
          have HW5 := Aside0.mk (hk _ _ _ _ HW.out)
          clear hs hk
          go_wp2
          go_roundg ju
          case measure => have := HJ.out; omega
          case rel =>
            have e0 := HIU.out
            have e1 := HJ.out
            have e2 := HP.out.2.2
            rw [List.length_append, List.length_singleton] at e2
            exact ⟨u + 1, by first | (rw [hwu]; simp; done) | (simp; done), ⟨by omega⟩, ⟨_, _, M', T5, HS5.out, ⟨(undo_undo _ _ _).trans HP.out.1, HP.out.2.1.back.2, by omega⟩, HW5.out⟩⟩
        · have q21 := eq_false hlu
          have q22 : decide ((u : Int) < (nn : Int)) = false := decide_eq_false (by omega)
          have q24 := eq_false (show ¬ (u : Int) < (nn : Int) by omega)
          have hM0 : M = [] := List.eq_nil_of_length_eq_zero (by have := HP.out.2.2; have := HIU.out; omega)
          have hC0 : C = [] := HP.out.2.1.none hM0
          have hLD : L = D := by have := HP.out.1; rw [hC0] at this; exact this
          have hsz := HS.out
          rw [hM0, hC0, hLD] at hsz
          have HSZ := Aside0.mk hsz
          have HWZ := Aside0.mk HW.out
          clear hlu hsz hM0 hC0 hLD HS HW
          go_wp2_with fail
          refine (s_all HSZ.out).mono ?_
          rintro e w5 ⟨A5, c5, rfl, hf, hb⟩
          have HF5 := Aside0.mk (hf.held HSZ.out.hi)
          have HS5 := Aside0.mk (HSZ.out.read hb)
          have HW5 := Aside0.mk (HWZ.out.below hb)
          clear hf hb HSZ HWZ
          go_wp2_with fail
          refine (s_lsame A5 c5 D Aw cw D w5 HF5.out.now HF5.out.1 HW5.out.now HW5.out.1 (by have := HS5.out.good.len; omega) HS5.out.good.small).mono ?_
          rintro e w6 ⟨rfl, hb⟩
          rw [decide_eq_true (rfl : D = D)]
          have HS6 := Aside0.mk (HS5.out.read hb)
          clear hb HS5
          go_wp2_with fail
          refine (s_level HS6.out).mono ?_
          rintro e w7 ⟨rfl, hb⟩
          have HS7 := Aside0.mk (HS6.out.read hb)
          clear hb HS6
          go_wp2_with fail
          refine (s_changes HS7.out).mono ?_
          rintro e w8 ⟨rfl, hb⟩
          have HS8 := Aside0.mk (HS7.out.read hb)
          clear hb HS7
          go_wp2_with fail
          refine (back_none HS8.out.st).mono ?_
          rintro e w9 ⟨rfl, hb⟩
          have HS9 := Aside0.mk (HS8.out.read hb)
          clear hb HS8
          go_wp2_with fail
          refine (fixed_calls w9).mono ?_
          rintro e wf ⟨rfl, hb⟩
          have HBF := Aside0.mk (HS9.out.read hb).below
          go_wp2
          go_ret
          exact ⟨rfl, HB1.out.trans (HBF.out.mono HB1.out.size)⟩
end Go.Proofs.Ytcjachhdoogbaaa.PT
