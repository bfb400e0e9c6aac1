/- TrailNews: the law's walk: it answers true. No conditions. -/
import Derived.Test.YtcjachhdoogbaaaTSameS
import Derived.Test.YtcjachhdoogbaaaTNewR
set_option linter.unusedVariables false
set_option linter.unusedSimpArgs false
namespace Go.Proofs.Ytcjachhdoogbaaa.PT
open Go.RowKit Go.Proofs.YtcjachhdoogbaaaW.PrintWords Go.Proofs.YtcjachhdoogbaaaW.PrintLast Go.Proofs.YtcjachhdoogbaaaW.PrintMore
/-- At most 8 domains of 8 ranges. -/
def cutL (l : List (List S62)) : List (List S62) := l.map (fun d => d.take (min 8 d.length))
theorem cutL_snoc (l : List (List S62)) (i : Nat) (h : i < l.length) : cutL (l.take i) ++ [(rd_L3 l (i : Int)).take (min 8 (rd_L3 l (i : Int)).length)] = cutL (l.take (i + 1)) := by
  have hs : l.take i ++ [rd_L3 l (i : Int)] = l.take (i + 1) := by
    rw [rd_L3, Int.toNat_natCast]; exact take_next l [] i h
  rw [← hs]
  unfold cutL
  rw [List.map_append]; rfl
theorem cutL_small (l : List (List S62)) : ∀ x ∈ cutL l, x.length ≤ 8 := fun x hx => by
  obtain ⟨d, _, rfl⟩ := List.mem_map.1 hx
  rw [List.length_take]; omega
theorem emptyL (w : World) : Kd.N kL 31 (w.alloc (.cells #[] 31)) w.heap.size (fun _ => True) (.slice (some ⟨w.heap.size, 0, none⟩) 0 0) [] := by
  refine Kd.R_N ⟨fun _ _ => trivial, ?_⟩
  exact OwnRow.lit (ps := ([] : List (List S62))) (inner := []) w w.heap.size ⟨rfl, fun m p hm => by simp at hm⟩ (Nat.le_refl _) (by simp)
set_option maxRecDepth 100000
set_option maxHeartbeats 4000000
theorem news_calls (A0 : Option Addr) (c0 : Nat) (l0 : List (List S62)) (w : World) (hr0 : Kd.C kL w A0 l0.length l0) (hc0 : l0.length ≤ c0) :
    Calls Try.prog 4 #[.slice A0 l0.length c0] w fun e w' => e = .returned (.bool true) ∧ Below w.heap.size w w' := by
  have HR0 := Aside0.mk hr0
  clear hr0 hc0
  have hu25 := Try.underlying25
  have hu3 := Try.underlying3
  have hu28 := Try.underlying28
  have hu31 := Try.underlying31
  go_enter Try.func4, Try.ntmps4
  go_wp2_with fail
  go_loopg [3, 4] (min l0.length 8) (fun j v3 v4 wr => ∃ i : Nat, v4 = .int .i64 (i : Int) ∧ Aside0 (i + j = min l0.length 8) ∧ Aside0 (Kd.N kL 31 wr w.heap.size (fun _ => True) v3 (cutL (l0.take i))) ∧ Aside0 (Below w.heap.size w wr))
  case atStart => exact ⟨0, rfl, ⟨Nat.zero_add _⟩, ⟨emptyL w⟩, ⟨below_alloc (Below.refl _ _) _⟩⟩
  case round =>
    obtain ⟨i, rfl, HI, HN, HB⟩ := hrel
    by_cases hlt : i < l0.length
    · by_cases h8 : i < 8
      · have hi1 : (i : Int) < (l0.length : Int) := by omega
        obtain ⟨ad, B, b, e, hx, hle, hC⟩ := at_L3 HR0.out (i : Int) (by omega) hi1
        cases e
        rw [Int.toNat_natCast] at hx
        have HX := Aside0.mk hx
        have q1 := eq_true hi1
        have q2 := eq_true hlt
        have q3 : decide ((i : Int) < (l0.length : Int)) = true := decide_eq_true hi1
        have q4 : decide ((i : Int) < 8) = true := decide_eq_true (by omega)
        have q5 := eq_true h8
        have hwi : wrap64 ((i : Int) + 1) = (i : Int) + 1 := wrap_id _ (by omega)
        obtain ⟨j, hj⟩ : ∃ j, gk = j + 1 := ⟨gk - 1, by have := HI.out; omega⟩
        have HJ := Aside0.mk hj
        obtain ⟨d, hd⟩ : ∃ d, d = (rd_L3 l0 (i : Int)).take (min 8 (rd_L3 l0 (i : Int)).length) := ⟨_, rfl⟩
        have hdl : d.length = min 8 (rd_L3 l0 (i : Int)).length := by rw [hd, List.length_take]; omega
        have hcut : ∀ W : World, (Instr.slice 31 (.slice B (rd_L3 l0 (i : Int)).length b) none (some (.int .i64 (d.length : Int))) none).run Try.prog W = .ok (.slice B d.length b) W := by
          obtain ⟨i62, hi62, _, _, _⟩ := info_parts info62
          have := cut_to (P := Try.prog) 31 62 .i64 Try.underlying31 hi62 B (rd_L3 l0 (i : Int)).length b (d.length : Int) (by omega) (by omega) hle
          rwa [Int.toNat_natCast] at this
        have hmin : (if (8 : Int) < ((rd_L3 l0 (i : Int)).length : Int) then 8 else ((rd_L3 l0 (i : Int)).length : Int)) = (d.length : Int) := by
          by_cases h8 : (8 : Int) < ((rd_L3 l0 (i : Int)).length : Int)
          · rw [if_pos h8]; omega
          · rw [if_neg h8]; omega
        have hF : Kd.F k62 w (fun k => k < w.heap.size) B d.length d := by rw [hd]; exact Kd.F_take (Kd.C_F heap62 hC) (by omega)
        have HFK := Aside0.mk (show Kd.FK kL (World.drew wr) (fun k => k < w.heap.size) d [.slice B d.length b] from Kd.FK_slice_mk (by omega) (Kd.F_below (Kd.F_below hF HB.out) (below_drew (Below.refl _ _))))
        have HSN := Aside0.mk (show cutL (l0.take i) ++ [d] = cutL (l0.take (i + 1)) by rw [hd]; exact cutL_snoc l0 i hlt)
        have HH8 := Aside0.mk h8
        have HBD := Aside0.mk (HB.out.trans (below_drew (Below.refl wr.heap.size wr) |>.mono HB.out.size))
        have HND := Aside0.mk (Kd.N_drew HN.out)
        obtain ⟨out, hout⟩ : ∃ out, out = cutL (l0.take i) := ⟨_, rfl⟩
        have hol : out.length ≤ 8 := by rw [hout]; unfold cutL; rw [List.length_map, List.length_take]; omega
        have HOL := Aside0.mk hol
        rw [← hout] at HND HSN
        obtain ⟨A3, c3, rfl⟩ := Kd.N_slice HN.out
        rw [← hout] at HND ⊢
        have hS0 : (World.drew wr).cell? (ad.add i) = some (.slice B (rd_L3 l0 (i : Int)).length b) := (HBD.out.cell (World.block_lt_of_cell? w _ hx)).trans hx
        clear hj hd hdl hle hC hF hol hlt h8 hi1 HN hout hx
        go_wp2_with fail
        refine wp_region_held_drew (S := (fun W => W.cell? (ad.add i) = some (.slice B (rd_L3 l0 (i : Int)).length b))) (by kernel_rfl) hS0 (fun hHeld => ?_)
        refine wpAnyH_take (i := 0) (v := ?_) rfl (by kernel_rfl) (by kernel_rfl) (by kernel_rfl) (fun _ _ _ h => h) (Or.inl ⟨by rfl, ?_⟩) (by assumption) ?_
        rotate_left
        · (intro w hSw; (try dsimp only at hSw); go_simp; all_goals (with_reducible rfl))
        try simp only [Act.put, List.setIfInBounds_toArray, List.set_cons_zero, List.set_cons_succ, List.getElem_toArray, List.getElem_cons_zero, List.getElem_cons_succ]
        refine wpAnyH_take (i := 1) (v := ?_) rfl (by kernel_rfl) (by kernel_rfl) (by kernel_rfl) (fun _ _ _ h => h) (Or.inl ⟨by rfl, ?_⟩) (by assumption) ?_
        rotate_left
        · (intro w hSw; (try dsimp only at hSw); go_simp; all_goals (with_reducible rfl))
        try simp only [Act.put, List.setIfInBounds_toArray, List.set_cons_zero, List.set_cons_succ, List.getElem_toArray, List.getElem_cons_zero, List.getElem_cons_succ]
        refine wpAnyH_take (i := 2) (v := ?_) rfl (by kernel_rfl) (by kernel_rfl) (by kernel_rfl) (fun _ _ _ h => h) (Or.inl ⟨by rfl, ?_⟩) (by assumption) ?_
        rotate_left
        · (intro w hSw; (try dsimp only at hSw); go_simp; all_goals (with_reducible rfl))
        try simp only [Act.put, List.setIfInBounds_toArray, List.set_cons_zero, List.set_cons_succ, List.getElem_toArray, List.getElem_cons_zero, List.getElem_cons_succ]
        refine wpAnyH_take (i := 3) (v := ?_) rfl (by kernel_rfl) (by kernel_rfl) (by kernel_rfl) (fun _ _ _ h => h) (Or.inl ⟨by rfl, ?_⟩) (by assumption) ?_
        rotate_left
        · (intro w hSw; (try dsimp only at hSw); go_simp; all_goals (with_reducible rfl))
        try simp only [Act.put, List.setIfInBounds_toArray, List.set_cons_zero, List.set_cons_succ, List.getElem_toArray, List.getElem_cons_zero, List.getElem_cons_succ]
        refine wpAnyH_take (i := 4) (v := ?_) rfl (by kernel_rfl) (by kernel_rfl) (by kernel_rfl) (fun _ _ _ h => h) (Or.inl ⟨by rfl, ?_⟩) (by assumption) ?_
        rotate_left
        · (intro w hSw; (try dsimp only at hSw); go_simp; all_goals (with_reducible rfl))
        try simp only [Act.put, List.setIfInBounds_toArray, List.set_cons_zero, List.set_cons_succ, List.getElem_toArray, List.getElem_cons_zero, List.getElem_cons_succ]
        refine wpAnyH_take (i := 5) (v := ?_) rfl (by kernel_rfl) (by kernel_rfl) (by kernel_rfl) (fun _ _ _ h => h) (Or.inl ⟨by rfl, ?_⟩) (by assumption) ?_
        rotate_left
        · (intro w hSw; (try dsimp only at hSw); go_simp; all_goals (with_reducible rfl))
        try simp only [Act.put, List.setIfInBounds_toArray, List.set_cons_zero, List.set_cons_succ, List.getElem_toArray, List.getElem_cons_zero, List.getElem_cons_succ]
        refine wpAnyH_take (i := 6) (v := ?_) rfl (by kernel_rfl) (by kernel_rfl) (by kernel_rfl) (fun _ _ _ h => h) (Or.inl ⟨by rfl, ?_⟩) (by assumption) ?_
        rotate_left
        · (intro w hSw; (try dsimp only at hSw); go_simp; all_goals (with_reducible rfl))
        try simp only [Act.put, List.setIfInBounds_toArray, List.set_cons_zero, List.set_cons_succ, List.getElem_toArray, List.getElem_cons_zero, List.getElem_cons_succ]
        refine wpAnyH_take (i := 7) (v := ?_) rfl (by kernel_rfl) (by kernel_rfl) (by kernel_rfl) (fun _ _ _ h => h) (Or.inl ⟨by rfl, ?_⟩) (by assumption) ?_
        rotate_left
        · (intro w hSw; (try dsimp only at hSw); go_simp; all_goals (with_reducible rfl))
        try simp only [Act.put, List.setIfInBounds_toArray, List.set_cons_zero, List.set_cons_succ, List.getElem_toArray, List.getElem_cons_zero, List.getElem_cons_succ]
        refine wpAnyH_take (i := 8) (v := ?_) rfl (by kernel_rfl) (by kernel_rfl) (by kernel_rfl) (fun _ _ _ h => h) (Or.inl ⟨by rfl, ?_⟩) (by assumption) ?_
        rotate_left
        · (intro w hSw; (try dsimp only at hSw); go_simp; all_goals (with_reducible rfl))
        try simp only [Act.put, List.setIfInBounds_toArray, List.set_cons_zero, List.set_cons_succ, List.getElem_toArray, List.getElem_cons_zero, List.getElem_cons_succ]
        refine wpAnyH_take (i := 9) (v := ?_) rfl (by kernel_rfl) (by kernel_rfl) (by kernel_rfl) (fun _ _ _ h => h) (Or.inl ⟨by rfl, ?_⟩) (by assumption) ?_
        rotate_left
        · (intro w hSw; (try dsimp only at hSw); go_simp; all_goals (with_reducible rfl))
        try simp only [Act.put, List.setIfInBounds_toArray, List.set_cons_zero, List.set_cons_succ, List.getElem_toArray, List.getElem_cons_zero, List.getElem_cons_succ]
        refine wpAnyH_take (i := 10) (v := ?_) rfl (by kernel_rfl) (by kernel_rfl) (by kernel_rfl) (fun _ _ _ h => h) (Or.inl ⟨by rfl, ?_⟩) (by assumption) ?_
        rotate_left
        · (intro w hSw; (try dsimp only at hSw); go_simp; all_goals (with_reducible rfl))
        try simp only [Act.put, List.setIfInBounds_toArray, List.set_cons_zero, List.set_cons_succ, List.getElem_toArray, List.getElem_cons_zero, List.getElem_cons_succ]
        refine wpAnyH_take (i := 11) (v := ?_) rfl (by kernel_rfl) (by kernel_rfl) (by kernel_rfl) (fun _ _ _ h => h) (Or.inl ⟨by rfl, ?_⟩) (by assumption) ?_
        rotate_left
        · (intro w hSw; (try dsimp only at hSw); go_simp; all_goals (with_reducible rfl))
        try simp only [Act.put, List.setIfInBounds_toArray, List.set_cons_zero, List.set_cons_succ, List.getElem_toArray, List.getElem_cons_zero, List.getElem_cons_succ]
        refine wpAnyH_ready (rs := [12]) (by kernel_rfl) (by simp) ?_
        refine AllReadyH.cons rfl (fun K hK => ?_) AllReadyH.nil
        go_simp
        refine hK.out _ _ ((World.cell?_alloc_lt _ _ _ (World.block_lt_of_cell? (World.drew wr) _ hS0)).trans hS0) (fun hHeld => ?_)
        clear hK K
        try simp only [Act.put, List.setIfInBounds_toArray, List.set_cons_zero, List.set_cons_succ, List.getElem_toArray, List.getElem_cons_zero, List.getElem_cons_succ]
        refine wpAnyH_ready (rs := [13]) (by kernel_rfl) (by simp) ?_
        refine AllReadyH.cons (o := { dst := some 33, op := Op.call { callee := Callee.builtin Builtin.append, args := #[Operand.tmp 20, Operand.tmp 32], argTypes := #[28, 28] }, type := 28, pos := "law.go:122", after := #[{ on := 0, ground := Ground.data }, { on := 12, ground := Ground.data }], guard := none }) rfl (fun K hK => ?_) AllReadyH.nil
        refine Kd.N_append_step kL (w0 := w) (W := World.drew wr) w.heap.size (by rfl) (.tmp 20) (.tmp 32) 28 31 (.slice none 0 0) 24 rfl Try.underlying28 info31 rfl (by decide) (by omega) (.slice A3 out.length c3) out d [.slice B d.length b] (fun _ => True) (fun k => k < w.heap.size) rfl rfl HFK.out (fun k hk => ⟨trivial, fun e => absurd (Kd.N_base HND.out k e.symm) (Nat.not_le.2 hk)⟩) (fun _ _ => trivial) HND.out HBD.out HBD.out.size (by have := HOL.out; omega) ?_
        intro v4 w4 ho hb hg hat
        have HO := Aside0.mk ho
        have HB4 := Aside0.mk hb
        have hS4 : w4.cell? (ad.add i) = some (.slice B (rd_L3 l0 (i : Int)).length b) := (hb.cell (World.block_lt_of_cell? w _ HX.out)).trans HX.out
        clear ho hb hg hat
        refine hK.out _ _ hS4 (fun hHeld => ?_)
        clear hK K
        try simp only [Act.put, List.setIfInBounds_toArray, List.set_cons_zero, List.set_cons_succ, List.getElem_toArray, List.getElem_cons_zero, List.getElem_cons_succ]
        refine wpAnyH_take (i := 14) (v := ?_) rfl (by kernel_rfl) (by kernel_rfl) (by kernel_rfl) (fun _ _ _ h => h) (Or.inl ⟨by rfl, ?_⟩) (by assumption) ?_
        rotate_left
        · (intro w hSw; (try dsimp only at hSw); go_simp; all_goals (with_reducible rfl))
        try simp only [Act.put, List.setIfInBounds_toArray, List.set_cons_zero, List.set_cons_succ, List.getElem_toArray, List.getElem_cons_zero, List.getElem_cons_succ]
        refine wpAnyH_done (by kernel_rfl) ?_ _
        go_wp2
        go_roundg j
        case measure => have := HJ.out; omega
        case rel =>
          have e0 := HI.out
          have e1 := HJ.out
          exact ⟨i + 1, by first | (simp; done) | (rw [hwi]; simp; done), ⟨by omega⟩, ⟨by rw [← HSN.out]; exact HO.out⟩, HB4⟩
      · have q3 : decide ((i : Int) < (l0.length : Int)) = true := decide_eq_true (by omega)
        have q4 : decide ((i : Int) < 8) = false := decide_eq_false (by omega)
        have q1 := eq_true (show (i : Int) < (l0.length : Int) by omega)
        have q2 := eq_true hlt
        have q5 := eq_false h8
        have HI8 := Aside0.mk (show i ≤ 8 by have := HI.out; omega)
        clear hlt h8
        obtain ⟨dl, hdl⟩ : ∃ dl, dl = cutL (l0.take i) := ⟨_, rfl⟩
        have HDL := Aside0.mk (show dl.length ≤ 8 by rw [hdl]; unfold cutL; rw [List.length_map, List.length_take]; have := HI8.out; omega)
        have HDS := Aside0.mk (show ∀ x ∈ dl, x.length ≤ 8 from by rw [hdl]; exact cutL_small _)
        have hN := HN.out
        rw [← hdl] at hN
        obtain ⟨A3, c3, rfl, hle3, hC3⟩ := Kd.N_reads hN
        have HC3 := Aside0.mk (And.intro hle3 hC3)
        clear hN HN hdl hle3 hC3
        go_wp2_with fail
        refine (new_calls KK A3 c3 dl (newC dl) wr HC3.out.2 HC3.out.1 ⟨by have := HDL.out; omega, fun x hx => by have := HDS.out x hx; omega⟩ (newS_newC dl KK (fun x hx => by have := HDS.out x hx; omega) (by rw [kk]; omega))).mono ?_
        rintro e w2 ⟨hb, hh⟩
        have HB2 := Aside0.mk (HB.out.trans (hb.mono HB.out.size))
        have HBX := Aside0.mk hb
        clear hb
        by_cases hz : newC dl = 0
        · obtain ⟨g, rfl, hs⟩ : ∃ g, e = .returned (.tuple #[.pointer (some ⟨g, 0, none⟩), .int .i64 0]) ∧ St (fun k => wr.heap.size ≤ k) w2 wr.heap.size g dl [] [] := by
            rcases hh with ⟨_, h⟩ | ⟨h, _⟩
            · exact h
            · exact absurd hz h
          have HS := Aside0.mk (show Stat (fun k => wr.heap.size ≤ k ∧ k < w2.heap.size) wr w2 wr.heap.size g dl [] [] 0 from ⟨hs.bound, HBX.out, fun k hk => hk.1, fun k hk => hk.2, HBX.out.size, ⟨HDL.out, newC_dom dl hz, fun c hc => (by cases hc), by simp⟩⟩)
          have HZ := Aside0.mk hz
          clear hh hs hz
          go_wp2_with fail
          refine (newR_calls A3 c3 dl w2 (Kd.C_below HC3.out.2 HBX.out) HC3.out.1 ⟨by have := HDL.out; omega, fun x hx => by have := HDS.out x hx; omega⟩).mono ?_
          rintro e w3 ⟨hb, ⟨_, kb, Al, cl, rfl, hkb, hblk, hf, _⟩ | ⟨h, _⟩⟩
          · have HB3 := Aside0.mk (HB2.out.trans (hb.mono HB2.out.size))
            have HS3 := Aside0.mk (HS.out.read hb)
            have HK := Aside0.mk hblk
            have HF := Aside0.mk hf
            clear hb hkb hblk hf HS
            go_wp2_with fail
            refine (same_calls HS3.out HK.out (Kd.F_now HF.out.2) HF.out.1).mono ?_
            rintro e w4 ⟨rfl, hb⟩
            have HB4 := Aside0.mk (HB3.out.trans (hb.mono HB3.out.size))
            clear hb
            go_wp2_with fail
            refine (fixed_calls w4).mono ?_
            rintro e wf ⟨rfl, hb⟩
            have HBF := Aside0.mk (HB4.out.trans (hb.mono HB4.out.size))
            go_wp2
            go_ret
            exact ⟨rfl, HBF.out⟩
          · exact absurd HZ.out h
        · have he : e = .returned (.tuple #[.pointer none, .int .i64 (newC dl)]) := by
            rcases hh with ⟨h, _⟩ | ⟨_, h⟩
            · exact absurd h hz
            · exact h
          subst he
          have HZ := Aside0.mk hz
          clear hh hz
          go_wp2_with fail
          refine (newR_calls A3 c3 dl w2 (Kd.C_below HC3.out.2 HBX.out) HC3.out.1 ⟨by have := HDL.out; omega, fun x hx => by have := HDS.out x hx; omega⟩).mono ?_
          rintro e w3 ⟨hb, ⟨h, _⟩ | ⟨_, rfl⟩⟩
          · exact absurd h HZ.out
          · have HB3 := Aside0.mk (HB2.out.trans (hb.mono HB2.out.size))
            clear hb
            go_wp2_with fail
            refine (fixed_calls w3).mono ?_
            rintro e wf ⟨rfl, hb⟩
            have HBF := Aside0.mk (HB3.out.trans (hb.mono HB3.out.size))
            go_wp2
            go_ret
            exact ⟨rfl, HBF.out⟩
    · have q3 : decide ((i : Int) < (l0.length : Int)) = false := decide_eq_false (by omega)
      have q1 := eq_false (show ¬ (i : Int) < (l0.length : Int) by omega)
      have q2 := eq_false hlt
      have HI8 := Aside0.mk (show i ≤ 8 by have := HI.out; omega)
      clear hlt
      obtain ⟨dl, hdl⟩ : ∃ dl, dl = cutL (l0.take i) := ⟨_, rfl⟩
      have HDL := Aside0.mk (show dl.length ≤ 8 by rw [hdl]; unfold cutL; rw [List.length_map, List.length_take]; have := HI8.out; omega)
      have HDS := Aside0.mk (show ∀ x ∈ dl, x.length ≤ 8 from by rw [hdl]; exact cutL_small _)
      have hN := HN.out
      rw [← hdl] at hN
      obtain ⟨A3, c3, rfl, hle3, hC3⟩ := Kd.N_reads hN
      have HC3 := Aside0.mk (And.intro hle3 hC3)
      clear hN HN hdl hle3 hC3
      go_wp2_with fail
      refine (new_calls KK A3 c3 dl (newC dl) wr HC3.out.2 HC3.out.1 ⟨by have := HDL.out; omega, fun x hx => by have := HDS.out x hx; omega⟩ (newS_newC dl KK (fun x hx => by have := HDS.out x hx; omega) (by rw [kk]; omega))).mono ?_
      rintro e w2 ⟨hb, hh⟩
      have HB2 := Aside0.mk (HB.out.trans (hb.mono HB.out.size))
      have HBX := Aside0.mk hb
      clear hb
      by_cases hz : newC dl = 0
      · obtain ⟨g, rfl, hs⟩ : ∃ g, e = .returned (.tuple #[.pointer (some ⟨g, 0, none⟩), .int .i64 0]) ∧ St (fun k => wr.heap.size ≤ k) w2 wr.heap.size g dl [] [] := by
          rcases hh with ⟨_, h⟩ | ⟨h, _⟩
          · exact h
          · exact absurd hz h
        have HS := Aside0.mk (show Stat (fun k => wr.heap.size ≤ k ∧ k < w2.heap.size) wr w2 wr.heap.size g dl [] [] 0 from ⟨hs.bound, HBX.out, fun k hk => hk.1, fun k hk => hk.2, HBX.out.size, ⟨HDL.out, newC_dom dl hz, fun c hc => (by cases hc), by simp⟩⟩)
        have HZ := Aside0.mk hz
        clear hh hs hz
        go_wp2_with fail
        refine (newR_calls A3 c3 dl w2 (Kd.C_below HC3.out.2 HBX.out) HC3.out.1 ⟨by have := HDL.out; omega, fun x hx => by have := HDS.out x hx; omega⟩).mono ?_
        rintro e w3 ⟨hb, ⟨_, kb, Al, cl, rfl, hkb, hblk, hf, _⟩ | ⟨h, _⟩⟩
        · have HB3 := Aside0.mk (HB2.out.trans (hb.mono HB2.out.size))
          have HS3 := Aside0.mk (HS.out.read hb)
          have HK := Aside0.mk hblk
          have HF := Aside0.mk hf
          clear hb hkb hblk hf HS
          go_wp2_with fail
          refine (same_calls HS3.out HK.out (Kd.F_now HF.out.2) HF.out.1).mono ?_
          rintro e w4 ⟨rfl, hb⟩
          have HB4 := Aside0.mk (HB3.out.trans (hb.mono HB3.out.size))
          clear hb
          go_wp2_with fail
          refine (fixed_calls w4).mono ?_
          rintro e wf ⟨rfl, hb⟩
          have HBF := Aside0.mk (HB4.out.trans (hb.mono HB4.out.size))
          go_wp2
          go_ret
          exact ⟨rfl, HBF.out⟩
        · exact absurd HZ.out h
      · have he : e = .returned (.tuple #[.pointer none, .int .i64 (newC dl)]) := by
          rcases hh with ⟨h, _⟩ | ⟨_, h⟩
          · exact absurd h hz
          · exact h
        subst he
        have HZ := Aside0.mk hz
        clear hh hz
        go_wp2_with fail
        refine (newR_calls A3 c3 dl w2 (Kd.C_below HC3.out.2 HBX.out) HC3.out.1 ⟨by have := HDL.out; omega, fun x hx => by have := HDS.out x hx; omega⟩).mono ?_
        rintro e w3 ⟨hb, ⟨h, _⟩ | ⟨_, rfl⟩⟩
        · exact absurd h HZ.out
        · have HB3 := Aside0.mk (HB2.out.trans (hb.mono HB2.out.size))
          clear hb
          go_wp2_with fail
          refine (fixed_calls w3).mono ?_
          rintro e wf ⟨rfl, hb⟩
          have HBF := Aside0.mk (HB3.out.trans (hb.mono HB3.out.size))
          go_wp2
          go_ret
          exact ⟨rfl, HBF.out⟩
end Go.Proofs.Ytcjachhdoogbaaa.PT
