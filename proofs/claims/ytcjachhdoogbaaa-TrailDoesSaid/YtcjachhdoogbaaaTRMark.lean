/- The document's Mark. No conditions but the lengths' bounds. -/
import Derived.Test.YtcjachhdoogbaaaTRef
set_option linter.unusedVariables false
set_option linter.unusedSimpArgs false
namespace Go.Proofs.Ytcjachhdoogbaaa.PT
open Go.RowKit Go.Proofs.YtcjachhdoogbaaaW.PrintWords Go.Proofs.YtcjachhdoogbaaaW.PrintLast Go.Proofs.YtcjachhdoogbaaaW.PrintMore
theorem info74 : (Try.prog.info? 74).map (fun i => (i.zero, i.size, i.bytes)) = some (some (.agg #[.slice none 0 0, .int .i64 0]), 2, 32) := by kernel_rfl
section
variable {T T' : Nat → Prop} {w w1 w0 : World} {base kb : Nat} {L : List (List S62)} {N : Int} {KM : List S74}
set_option maxRecDepth 100000
set_option maxHeartbeats 8000000
theorem rmark_calls (h : RSt T w base kb L N KM) (hB : Below base w0 w) (hbase : base ≤ w.heap.size) (hL : L.length ≤ 8 ∧ ∀ x ∈ L, x.length ≤ 10000) (hKL : KM.length ≤ 100000) :
    Calls Try.prog 29 #[.pointer (some ⟨kb, 0, none⟩)] w fun e w' => e = .returned (.tuple #[]) ∧ RSt (fun k => T k ∨ w.heap.size ≤ k) w' base kb L N (KM ++ [(⟨L, N⟩ : S74)]) ∧ Below base w0 w' ∧ Kept w w' T := by
  obtain ⟨Al, cl, Am, cm, hT, hkb, hblk, hle, hF, hm⟩ := h
  have HT := Aside0.mk hT
  have HKB := Aside0.mk hkb
  have HBL := Aside0.mk hblk
  have HLE := Aside0.mk hle
  have HF := Aside0.mk hF
  have HM := Aside0.mk hm
  have HB := Aside0.mk hB
  have HS := Aside0.mk hbase
  have HL := Aside0.mk hL
  have HKL := Aside0.mk hKL
  have hu3 := Try.underlying3
  have hu28 := Try.underlying28
  have hu74 := Try.underlying74
  have hu75 := Try.underlying75
  have hu77 := Try.underlying77
  obtain ⟨hk0, hk1, hk2⟩ := kcells hblk
  have HB0 := Aside0.mk (below_drew (Below.refl w.heap.size w))
  clear hT hkb hblk hle hF hm hB hbase hL hKL
  go_enter Try.func29, Try.ntmps29
  go_wp2_with fail
  refine wp_region_held_drew (S := (fun W => W.cell? ⟨kb, 0, none⟩ = some (.slice Al L.length cl) ∧ W.cell? ⟨kb, 1, none⟩ = some (.int .i64 N))) (by kernel_rfl) ⟨hk0, hk1⟩ (fun hHeld => ?_)
  refine wpAnyH_take (i := 0) (v := ?_) rfl (by kernel_rfl) (by kernel_rfl) (by kernel_rfl) (fun _ _ _ h => h) (Or.inl ⟨by rfl, ?_⟩) (by assumption) ?_
  rotate_left
  · (intro w hSw; (try dsimp only at hSw); go_simp; all_goals (with_reducible rfl))
  try simp only [Act.put, List.setIfInBounds_toArray, List.set_cons_zero, List.set_cons_succ, List.getElem_toArray, List.getElem_cons_zero, List.getElem_cons_succ]
  refine wpAnyH_take (i := 1) (v := ?_) rfl (by kernel_rfl) (by kernel_rfl) (by kernel_rfl) (fun _ _ _ h => h) (Or.inl ⟨by rfl, ?_⟩) (by assumption) ?_
  rotate_left
  · (intro w hSw; (try dsimp only at hSw); go_simp; all_goals (with_reducible rfl))
  try simp only [Act.put, List.setIfInBounds_toArray, List.set_cons_zero, List.set_cons_succ, List.getElem_toArray, List.getElem_cons_zero, List.getElem_cons_succ]
  refine wpAnyH_take (i := 2) (v := ?_) rfl (by kernel_rfl) (by kernel_rfl) (by kernel_rfl) (fun _ _ _ h => h) (Or.inl ⟨by rfl, ?_⟩) (by assumption) ?_
  rotate_left
  · (intro w hSw; (try dsimp only at hSw); go_simp; all_goals (with_reducible rfl))
  try simp only [Act.put, List.setIfInBounds_toArray, List.set_cons_zero, List.set_cons_succ, List.getElem_toArray, List.getElem_cons_zero, List.getElem_cons_succ]
  refine wpAnyH_take (i := 3) (v := ?_) rfl (by kernel_rfl) (by kernel_rfl) (by kernel_rfl) (fun _ _ _ h => h) (Or.inl ⟨by rfl, ?_⟩) (by assumption) ?_
  rotate_left
  · (intro w hSw; (try dsimp only at hSw); go_simp; all_goals (with_reducible rfl))
  try simp only [Act.put, List.setIfInBounds_toArray, List.set_cons_zero, List.set_cons_succ, List.getElem_toArray, List.getElem_cons_zero, List.getElem_cons_succ]
  refine wpAnyH_take (i := 5) (v := ?_) rfl (by kernel_rfl) (by kernel_rfl) (by kernel_rfl) (fun _ _ _ h => h) (Or.inl ⟨by rfl, ?_⟩) (by assumption) ?_
  rotate_left
  · (intro w hSw; (try dsimp only at hSw); go_simp; all_goals (with_reducible rfl))
  try simp only [Act.put, List.setIfInBounds_toArray, List.set_cons_zero, List.set_cons_succ, List.getElem_toArray, List.getElem_cons_zero, List.getElem_cons_succ]
  refine wpAnyH_take (i := 6) (v := ?_) rfl (by kernel_rfl) (by kernel_rfl) (by kernel_rfl) (fun _ _ _ h => h) (Or.inl ⟨by rfl, ?_⟩) (by assumption) ?_
  rotate_left
  · (intro w hSw; (try dsimp only at hSw); go_simp; all_goals (with_reducible rfl))
  try simp only [Act.put, List.setIfInBounds_toArray, List.set_cons_zero, List.set_cons_succ, List.getElem_toArray, List.getElem_cons_zero, List.getElem_cons_succ]
  refine wpAnyH_take (i := 7) (v := ?_) rfl (by kernel_rfl) (by kernel_rfl) (by kernel_rfl) (fun _ _ _ h => h) (Or.inl ⟨by rfl, ?_⟩) (by assumption) ?_
  rotate_left
  · (intro w hSw; (try dsimp only at hSw); go_simp; all_goals (with_reducible rfl))
  try simp only [Act.put, List.setIfInBounds_toArray, List.set_cons_zero, List.set_cons_succ, List.getElem_toArray, List.getElem_cons_zero, List.getElem_cons_succ]
  refine wpAnyH_take (i := 8) (v := ?_) rfl (by kernel_rfl) (by kernel_rfl) (by kernel_rfl) (fun _ _ _ h => h) (Or.inl ⟨by rfl, ?_⟩) (by assumption) ?_
  rotate_left
  · (intro w hSw; (try dsimp only at hSw); go_simp; all_goals (with_reducible rfl))
  try simp only [Act.put, List.setIfInBounds_toArray, List.set_cons_zero, List.set_cons_succ, List.getElem_toArray, List.getElem_cons_zero, List.getElem_cons_succ]
  refine wpAnyH_take (i := 9) (v := ?_) rfl (by kernel_rfl) (by kernel_rfl) (by kernel_rfl) (fun _ _ _ h => h) (Or.inl ⟨by rfl, ?_⟩) (by assumption) ?_
  rotate_left
  · (intro w hSw; (try dsimp only at hSw); go_simp; all_goals (with_reducible rfl))
  try simp only [Act.put, List.setIfInBounds_toArray, List.set_cons_zero, List.set_cons_succ, List.getElem_toArray, List.getElem_cons_zero, List.getElem_cons_succ]
  refine wpAnyH_take (i := 11) (v := ?_) rfl (by kernel_rfl) (by kernel_rfl) (by kernel_rfl) (fun _ _ _ h => h) (Or.inl ⟨by rfl, ?_⟩) (by assumption) ?_
  rotate_left
  · (intro w hSw; (try dsimp only at hSw); go_simp; all_goals (with_reducible rfl))
  try simp only [Act.put, List.setIfInBounds_toArray, List.set_cons_zero, List.set_cons_succ, List.getElem_toArray, List.getElem_cons_zero, List.getElem_cons_succ]
  refine wpAnyH_take (i := 12) (v := ?_) rfl (by kernel_rfl) (by kernel_rfl) (by kernel_rfl) (fun _ _ _ h => h) (Or.inl ⟨by rfl, ?_⟩) (by assumption) ?_
  rotate_left
  · (intro w hSw; (try dsimp only at hSw); go_simp; all_goals (with_reducible rfl))
  try simp only [Act.put, List.setIfInBounds_toArray, List.set_cons_zero, List.set_cons_succ, List.getElem_toArray, List.getElem_cons_zero, List.getElem_cons_succ]
  refine wpAnyH_take (i := 13) (v := ?_) rfl (by kernel_rfl) (by kernel_rfl) (by kernel_rfl) (fun _ _ _ h => h) (Or.inl ⟨by rfl, ?_⟩) (by assumption) ?_
  rotate_left
  · (intro w hSw; (try dsimp only at hSw); go_simp; all_goals (with_reducible rfl))
  try simp only [Act.put, List.setIfInBounds_toArray, List.set_cons_zero, List.set_cons_succ, List.getElem_toArray, List.getElem_cons_zero, List.getElem_cons_succ]
  refine wpAnyH_take (i := 14) (v := ?_) rfl (by kernel_rfl) (by kernel_rfl) (by kernel_rfl) (fun _ _ _ h => h) (Or.inl ⟨by rfl, ?_⟩) (by assumption) ?_
  rotate_left
  · (intro w hSw; (try dsimp only at hSw); go_simp; all_goals (with_reducible rfl))
  try simp only [Act.put, List.setIfInBounds_toArray, List.set_cons_zero, List.set_cons_succ, List.getElem_toArray, List.getElem_cons_zero, List.getElem_cons_succ]
  refine wpAnyH_take (i := 15) (v := ?_) rfl (by kernel_rfl) (by kernel_rfl) (by kernel_rfl) (fun _ _ _ h => h) (Or.inl ⟨by rfl, ?_⟩) (by assumption) ?_
  rotate_left
  · (intro w hSw; (try dsimp only at hSw); go_simp; all_goals (with_reducible rfl))
  try simp only [Act.put, List.setIfInBounds_toArray, List.set_cons_zero, List.set_cons_succ, List.getElem_toArray, List.getElem_cons_zero, List.getElem_cons_succ]
  refine wpAnyH_ready (rs := [4, 10]) (by kernel_rfl) (by simp) ?_
  refine AllReadyH.cons rfl (fun Kq hK => ?_) (AllReadyH.cons rfl (fun Kq hK => ?_) AllReadyH.nil)
  · go_simp
    refine hK.out _ _ ⟨hk0, hk1⟩ (fun hHeld => ?_)
    clear hK Kq
    try simp only [Act.put, List.setIfInBounds_toArray, List.set_cons_zero, List.set_cons_succ, List.getElem_toArray, List.getElem_cons_zero, List.getElem_cons_succ]
    refine wpAnyH_ready (rs := [10]) (by kernel_rfl) (by simp) ?_
    refine AllReadyH.cons rfl (fun K hK => ?_) AllReadyH.nil
    go_simp
    go_at_call 42
    refine (s_lists Al cl L (World.drew w) (Kd.C_below (Kd.F_now HF.out) HB0.out) HLE.out (by have := HL.out.1; omega) (fun x hx => by have := HL.out.2 x hx; omega)).mono ?_
    rintro e wB ⟨A2, c2, rfl, hf, hb⟩
    have HFR := Aside0.mk hf
    have HBB := Aside0.mk (HB0.out.trans (hb.mono HB0.out.size))
    obtain ⟨ha0, ha1, ha2⟩ := kcells (blk_below HBL.out HBB.out)
    have ha2a : ∀ o : Obj, (wB.alloc o).cell? ⟨kb, 2, none⟩ = some (.slice Am KM.length cm) := fun o => (World.cell?_alloc_lt _ _ _ (World.block_lt_of_cell? wB _ ha2)).trans ha2
    have hS1 : wB.cell? ⟨kb, 0, none⟩ = some (.slice Al L.length cl) ∧ wB.cell? ⟨kb, 1, none⟩ = some (.int .i64 N) := ⟨ha0, ha1⟩
    clear hf hb
    go_wp2_with fail
    refine hK.out _ _ hS1 (fun hHeld => ?_)
    clear hK K
    try simp only [Act.put, List.setIfInBounds_toArray, List.set_cons_zero, List.set_cons_succ, List.getElem_toArray, List.getElem_cons_zero, List.getElem_cons_succ]
    refine wpAnyH_take (i := 16) (v := ?_) rfl (by kernel_rfl) (by kernel_rfl) (by kernel_rfl) (fun _ _ _ h => h) (Or.inl ⟨by rfl, ?_⟩) (by assumption) ?_
    rotate_left
    · (intro w hSw; (try dsimp only at hSw); go_simp; all_goals (with_reducible rfl))
    try simp only [Act.put, List.setIfInBounds_toArray, List.set_cons_zero, List.set_cons_succ, List.getElem_toArray, List.getElem_cons_zero, List.getElem_cons_succ]
    refine wpAnyH_ready (rs := [17]) (by kernel_rfl) (by simp) ?_
    refine AllReadyH.cons rfl (fun K hK => ?_) AllReadyH.nil
    go_simp
    refine hK.out _ _ ⟨(World.cell?_alloc_lt _ _ _ (World.block_lt_of_cell? wB _ ha0)).trans ha0, (World.cell?_alloc_lt _ _ _ (World.block_lt_of_cell? wB _ ha1)).trans ha1⟩ (fun hHeld => ?_)
    clear hK K
    try simp only [Act.put, List.setIfInBounds_toArray, List.set_cons_zero, List.set_cons_succ, List.getElem_toArray, List.getElem_cons_zero, List.getElem_cons_succ]
    refine wpAnyH_ready (rs := [18]) (by kernel_rfl) (by simp) ?_
    refine AllReadyH.cons rfl (fun K hK => ?_) AllReadyH.nil
    refine Kd.N_append_step k74 (w0 := w0) (W := wB) base (by rfl) (.tmp 6) (.tmp 19) 75 74 (.agg #[.slice none 0 0, .int .i64 0]) 32 rfl Try.underlying75 info74 rfl (by decide) (by omega) (.slice Am KM.length cm) KM (⟨L, N⟩ : S74) [.slice A2 L.length c2, .int .i64 N] (fun k => (T k ∨ w.heap.size ≤ k) ∧ k ≠ kb) (fun k => w.heap.size ≤ k) rfl rfl (k74_mkF wB _ (⟨L, N⟩ : S74) HFR.out.1 HFR.out.2) ?aPA ?aFA ?aOA ?aBA ?aSA ?aLA ?_
    (case aPA => exact fun k hk => ⟨⟨.inr hk, fun e => absurd (blk_lt HBL.out) (by rw [← e]; exact Nat.not_lt.2 hk)⟩, fun e => absurd (Kd.N_lt HM.out k e.symm) (Nat.not_lt.2 hk)⟩)
    (case aFA => exact fun k hk => ⟨.inr (Nat.le_trans HBB.out.size hk), fun e => absurd (Nat.lt_of_lt_of_le (blk_lt HBL.out) HBB.out.size) (by rw [← e]; exact Nat.not_lt.2 hk)⟩)
    (case aOA => exact Kd.N_mono (Kd.N_below HM.out HBB.out) (fun k hk => ⟨.inl hk.1, hk.2⟩))
    (case aBA => exact HB.out.trans (HBB.out.mono HS.out))
    (case aSA => exact Nat.le_trans HS.out HBB.out.size)
    (case aLA => have := HKL.out; omega)
    intro v1 w5 ho hb hg hat
    obtain ⟨A5, c5, rfl⟩ := Kd.N_slice ho
    have e1 : (KM ++ [(⟨L, N⟩ : S74)]).length = KM.length + 1 := by simp
    rw [e1] at ho hat ⊢
    have hne : some kb ≠ (Value.slice Am KM.length cm).ownBlock := fun e => absurd rfl (HM.out.1 kb e.symm).2
    have hblk5 := blk_grown (blk_below HBL.out HBB.out) hg hne
    obtain ⟨hz0, hz1, hz2⟩ := kcells hblk5
    have hfz := blk_frozen hblk5 2
    have HO := Aside0.mk ho
    have HB5 := Aside0.mk hb
    have HG := Aside0.mk hg
    have HA := Aside0.mk hat
    have HBL5 := Aside0.mk hblk5
    have hblk6 : (w5.setCell ⟨kb, 2, none⟩ (.slice A5 (KM.length + 1) c5)).heap[kb]? = some (.cells #[.slice Al L.length cl, .int .i64 N, .slice A5 (KM.length + 1) c5] 77 (0, 0)) := blk_put hblk5 2 _ rfl
    have HBL6 := Aside0.mk hblk6
    clear ho hb hg hat hblk5 e1 hne hblk6
    refine hK.out _ _ ⟨hz0, hz1⟩ (fun hHeld => ?_)
    clear hK K
    try simp only [Act.put, List.setIfInBounds_toArray, List.set_cons_zero, List.set_cons_succ, List.getElem_toArray, List.getElem_cons_zero, List.getElem_cons_succ]
    refine wpAnyH_take (i := 19) (v := ?_) rfl (by kernel_rfl) (by kernel_rfl) (by kernel_rfl) (fun _ _ _ h => h) (Or.inl ⟨by rfl, ?_⟩) (by assumption) ?_
    rotate_left
    · (intro w hSw; (try dsimp only at hSw); go_simp; all_goals (with_reducible rfl))
    try simp only [Act.put, List.setIfInBounds_toArray, List.set_cons_zero, List.set_cons_succ, List.getElem_toArray, List.getElem_cons_zero, List.getElem_cons_succ]
    refine wpAnyH_take (i := 20) (v := ?_) rfl (by kernel_rfl) (by kernel_rfl) (by kernel_rfl) (fun _ _ _ h => h) (Or.inl ⟨by rfl, ?_⟩) (by assumption) ?_
    rotate_left
    · (intro w hSw; (try dsimp only at hSw); go_simp; all_goals (with_reducible rfl))
    try simp only [Act.put, List.setIfInBounds_toArray, List.set_cons_zero, List.set_cons_succ, List.getElem_toArray, List.getElem_cons_zero, List.getElem_cons_succ]
    refine wpAnyH_ready (rs := [21]) (by kernel_rfl) (by simp) ?_
    refine AllReadyH.cons rfl (fun K hK => ?_) AllReadyH.nil
    go_simp
    refine hK.out _ _ ⟨(kcells HBL6.out).1, (kcells HBL6.out).2.1⟩ (fun hHeld => ?_)
    refine wpAnyH_done (by kernel_rfl) ?_ _
    go_end0
    have e1 : (KM ++ [(⟨L, N⟩ : S74)]).length = KM.length + 1 := by simp
    have hml := Kd.N_lt HM.out
    have hkl := blk_lt HBL.out
    have hsB := HBB.out.size
    refine ⟨rfl, ⟨Al, cl, A5, c5, .inl HT.out, HKB.out, by rw [e1]; exact HBL6.out, HLE.out, ?_, ?_⟩, HB5.out.setCell (p := ⟨kb, 2, none⟩) HKB.out _, Kept.setCell (Kept.of_grown HG.out (Kept.of_below HBB.out T) (fun k hk => .inl (HM.out.1 k hk).1)) (p := ⟨kb, 2, none⟩) (.inl HT.out) _⟩
    · rw [e1]
      refine Kd.F_mono (Kd.F_far (Kd.F_grown (Kd.F_below (Kd.F_bound HF.out) HBB.out) HG.out (fun k hk => hk.1.2.2)) (p := ⟨kb, 2, none⟩) (fun k hk e => hk.1.2.1 e) _) (fun k hk => ⟨.inl hk.1.1, hk.1.2.1, fun e => ?_⟩)
      rcases HA.out with e2 | ⟨b, e2, hb2⟩
      · exact hk.1.2.2 (e.trans e2)
      · rw [e2] at e; cases e; have := hk.2; omega
    · rw [e1]
      exact Kd.N_far HO.out (p := ⟨kb, 2, none⟩) (fun k hk e => hk.2 e) _
  · go_simp
    go_at_call 42
    refine (s_lists Al cl L (World.drew w) (Kd.C_below (Kd.F_now HF.out) HB0.out) HLE.out (by have := HL.out.1; omega) (fun x hx => by have := HL.out.2 x hx; omega)).mono ?_
    rintro e wB ⟨A2, c2, rfl, hf, hb⟩
    have HFR := Aside0.mk hf
    have HBB := Aside0.mk (HB0.out.trans (hb.mono HB0.out.size))
    obtain ⟨ha0, ha1, ha2⟩ := kcells (blk_below HBL.out HBB.out)
    have ha2a : ∀ o : Obj, (wB.alloc o).cell? ⟨kb, 2, none⟩ = some (.slice Am KM.length cm) := fun o => (World.cell?_alloc_lt _ _ _ (World.block_lt_of_cell? wB _ ha2)).trans ha2
    have hS1 : wB.cell? ⟨kb, 0, none⟩ = some (.slice Al L.length cl) ∧ wB.cell? ⟨kb, 1, none⟩ = some (.int .i64 N) := ⟨ha0, ha1⟩
    clear hf hb
    go_wp2_with fail
    refine hK.out _ _ hS1 (fun hHeld => ?_)
    clear hK Kq
    try simp only [Act.put, List.setIfInBounds_toArray, List.set_cons_zero, List.set_cons_succ, List.getElem_toArray, List.getElem_cons_zero, List.getElem_cons_succ]
    refine wpAnyH_take (i := 16) (v := ?_) rfl (by kernel_rfl) (by kernel_rfl) (by kernel_rfl) (fun _ _ _ h => h) (Or.inl ⟨by rfl, ?_⟩) (by assumption) ?_
    rotate_left
    · (intro w hSw; (try dsimp only at hSw); go_simp; all_goals (with_reducible rfl))
    try simp only [Act.put, List.setIfInBounds_toArray, List.set_cons_zero, List.set_cons_succ, List.getElem_toArray, List.getElem_cons_zero, List.getElem_cons_succ]
    refine wpAnyH_ready (rs := [4, 17]) (by kernel_rfl) (by simp) ?_
    refine AllReadyH.cons rfl (fun Kr hK => ?_) (AllReadyH.cons rfl (fun Kr hK => ?_) AllReadyH.nil)
    · go_simp
      refine hK.out _ _ hS1 (fun hHeld => ?_)
      clear hK Kr
      try simp only [Act.put, List.setIfInBounds_toArray, List.set_cons_zero, List.set_cons_succ, List.getElem_toArray, List.getElem_cons_zero, List.getElem_cons_succ]
      refine wpAnyH_ready (rs := [17]) (by kernel_rfl) (by simp) ?_
      refine AllReadyH.cons rfl (fun K hK => ?_) AllReadyH.nil
      go_simp
      refine hK.out _ _ ⟨(World.cell?_alloc_lt _ _ _ (World.block_lt_of_cell? wB _ ha0)).trans ha0, (World.cell?_alloc_lt _ _ _ (World.block_lt_of_cell? wB _ ha1)).trans ha1⟩ (fun hHeld => ?_)
      clear hK K
      try simp only [Act.put, List.setIfInBounds_toArray, List.set_cons_zero, List.set_cons_succ, List.getElem_toArray, List.getElem_cons_zero, List.getElem_cons_succ]
      refine wpAnyH_ready (rs := [18]) (by kernel_rfl) (by simp) ?_
      refine AllReadyH.cons rfl (fun K hK => ?_) AllReadyH.nil
      refine Kd.N_append_step k74 (w0 := w0) (W := wB) base (by rfl) (.tmp 6) (.tmp 19) 75 74 (.agg #[.slice none 0 0, .int .i64 0]) 32 rfl Try.underlying75 info74 rfl (by decide) (by omega) (.slice Am KM.length cm) KM (⟨L, N⟩ : S74) [.slice A2 L.length c2, .int .i64 N] (fun k => (T k ∨ w.heap.size ≤ k) ∧ k ≠ kb) (fun k => w.heap.size ≤ k) rfl rfl (k74_mkF wB _ (⟨L, N⟩ : S74) HFR.out.1 HFR.out.2) ?aPB ?aFB ?aOB ?aBB ?aSB ?aLB ?_
      (case aPB => exact fun k hk => ⟨⟨.inr hk, fun e => absurd (blk_lt HBL.out) (by rw [← e]; exact Nat.not_lt.2 hk)⟩, fun e => absurd (Kd.N_lt HM.out k e.symm) (Nat.not_lt.2 hk)⟩)
      (case aFB => exact fun k hk => ⟨.inr (Nat.le_trans HBB.out.size hk), fun e => absurd (Nat.lt_of_lt_of_le (blk_lt HBL.out) HBB.out.size) (by rw [← e]; exact Nat.not_lt.2 hk)⟩)
      (case aOB => exact Kd.N_mono (Kd.N_below HM.out HBB.out) (fun k hk => ⟨.inl hk.1, hk.2⟩))
      (case aBB => exact HB.out.trans (HBB.out.mono HS.out))
      (case aSB => exact Nat.le_trans HS.out HBB.out.size)
      (case aLB => have := HKL.out; omega)
      intro v1 w5 ho hb hg hat
      obtain ⟨A5, c5, rfl⟩ := Kd.N_slice ho
      have e1 : (KM ++ [(⟨L, N⟩ : S74)]).length = KM.length + 1 := by simp
      rw [e1] at ho hat ⊢
      have hne : some kb ≠ (Value.slice Am KM.length cm).ownBlock := fun e => absurd rfl (HM.out.1 kb e.symm).2
      have hblk5 := blk_grown (blk_below HBL.out HBB.out) hg hne
      obtain ⟨hz0, hz1, hz2⟩ := kcells hblk5
      have hfz := blk_frozen hblk5 2
      have HO := Aside0.mk ho
      have HB5 := Aside0.mk hb
      have HG := Aside0.mk hg
      have HA := Aside0.mk hat
      have HBL5 := Aside0.mk hblk5
      have hblk6 : (w5.setCell ⟨kb, 2, none⟩ (.slice A5 (KM.length + 1) c5)).heap[kb]? = some (.cells #[.slice Al L.length cl, .int .i64 N, .slice A5 (KM.length + 1) c5] 77 (0, 0)) := blk_put hblk5 2 _ rfl
      have HBL6 := Aside0.mk hblk6
      clear ho hb hg hat hblk5 e1 hne hblk6
      refine hK.out _ _ ⟨hz0, hz1⟩ (fun hHeld => ?_)
      clear hK K
      try simp only [Act.put, List.setIfInBounds_toArray, List.set_cons_zero, List.set_cons_succ, List.getElem_toArray, List.getElem_cons_zero, List.getElem_cons_succ]
      refine wpAnyH_take (i := 19) (v := ?_) rfl (by kernel_rfl) (by kernel_rfl) (by kernel_rfl) (fun _ _ _ h => h) (Or.inl ⟨by rfl, ?_⟩) (by assumption) ?_
      rotate_left
      · (intro w hSw; (try dsimp only at hSw); go_simp; all_goals (with_reducible rfl))
      try simp only [Act.put, List.setIfInBounds_toArray, List.set_cons_zero, List.set_cons_succ, List.getElem_toArray, List.getElem_cons_zero, List.getElem_cons_succ]
      refine wpAnyH_take (i := 20) (v := ?_) rfl (by kernel_rfl) (by kernel_rfl) (by kernel_rfl) (fun _ _ _ h => h) (Or.inl ⟨by rfl, ?_⟩) (by assumption) ?_
      rotate_left
      · (intro w hSw; (try dsimp only at hSw); go_simp; all_goals (with_reducible rfl))
      try simp only [Act.put, List.setIfInBounds_toArray, List.set_cons_zero, List.set_cons_succ, List.getElem_toArray, List.getElem_cons_zero, List.getElem_cons_succ]
      refine wpAnyH_ready (rs := [21]) (by kernel_rfl) (by simp) ?_
      refine AllReadyH.cons rfl (fun K hK => ?_) AllReadyH.nil
      go_simp
      refine hK.out _ _ ⟨(kcells HBL6.out).1, (kcells HBL6.out).2.1⟩ (fun hHeld => ?_)
      refine wpAnyH_done (by kernel_rfl) ?_ _
      go_end0
      have e1 : (KM ++ [(⟨L, N⟩ : S74)]).length = KM.length + 1 := by simp
      have hml := Kd.N_lt HM.out
      have hkl := blk_lt HBL.out
      have hsB := HBB.out.size
      refine ⟨rfl, ⟨Al, cl, A5, c5, .inl HT.out, HKB.out, by rw [e1]; exact HBL6.out, HLE.out, ?_, ?_⟩, HB5.out.setCell (p := ⟨kb, 2, none⟩) HKB.out _, Kept.setCell (Kept.of_grown HG.out (Kept.of_below HBB.out T) (fun k hk => .inl (HM.out.1 k hk).1)) (p := ⟨kb, 2, none⟩) (.inl HT.out) _⟩
      · rw [e1]
        refine Kd.F_mono (Kd.F_far (Kd.F_grown (Kd.F_below (Kd.F_bound HF.out) HBB.out) HG.out (fun k hk => hk.1.2.2)) (p := ⟨kb, 2, none⟩) (fun k hk e => hk.1.2.1 e) _) (fun k hk => ⟨.inl hk.1.1, hk.1.2.1, fun e => ?_⟩)
        rcases HA.out with e2 | ⟨b, e2, hb2⟩
        · exact hk.1.2.2 (e.trans e2)
        · rw [e2] at e; cases e; have := hk.2; omega
      · rw [e1]
        exact Kd.N_far HO.out (p := ⟨kb, 2, none⟩) (fun k hk e => hk.2 e) _
    · go_simp
      refine hK.out _ _ ⟨(World.cell?_alloc_lt _ _ _ (World.block_lt_of_cell? wB _ ha0)).trans ha0, (World.cell?_alloc_lt _ _ _ (World.block_lt_of_cell? wB _ ha1)).trans ha1⟩ (fun hHeld => ?_)
      clear hK Kr
      try simp only [Act.put, List.setIfInBounds_toArray, List.set_cons_zero, List.set_cons_succ, List.getElem_toArray, List.getElem_cons_zero, List.getElem_cons_succ]
      refine wpAnyH_ready (rs := [4]) (by kernel_rfl) (by simp) ?_
      refine AllReadyH.cons rfl (fun K hK => ?_) AllReadyH.nil
      go_simp
      refine hK.out _ _ ⟨(World.cell?_alloc_lt _ _ _ (World.block_lt_of_cell? wB _ ha0)).trans ha0, (World.cell?_alloc_lt _ _ _ (World.block_lt_of_cell? wB _ ha1)).trans ha1⟩ (fun hHeld => ?_)
      clear hK K
      try simp only [Act.put, List.setIfInBounds_toArray, List.set_cons_zero, List.set_cons_succ, List.getElem_toArray, List.getElem_cons_zero, List.getElem_cons_succ]
      refine wpAnyH_ready (rs := [18]) (by kernel_rfl) (by simp) ?_
      refine AllReadyH.cons rfl (fun K hK => ?_) AllReadyH.nil
      refine Kd.N_append_step k74 (w0 := w0) (W := wB) base (by rfl) (.tmp 6) (.tmp 19) 75 74 (.agg #[.slice none 0 0, .int .i64 0]) 32 rfl Try.underlying75 info74 rfl (by decide) (by omega) (.slice Am KM.length cm) KM (⟨L, N⟩ : S74) [.slice A2 L.length c2, .int .i64 N] (fun k => (T k ∨ w.heap.size ≤ k) ∧ k ≠ kb) (fun k => w.heap.size ≤ k) rfl rfl (k74_mkF wB _ (⟨L, N⟩ : S74) HFR.out.1 HFR.out.2) ?aPC ?aFC ?aOC ?aBC ?aSC ?aLC ?_
      (case aPC => exact fun k hk => ⟨⟨.inr hk, fun e => absurd (blk_lt HBL.out) (by rw [← e]; exact Nat.not_lt.2 hk)⟩, fun e => absurd (Kd.N_lt HM.out k e.symm) (Nat.not_lt.2 hk)⟩)
      (case aFC => exact fun k hk => ⟨.inr (Nat.le_trans HBB.out.size hk), fun e => absurd (Nat.lt_of_lt_of_le (blk_lt HBL.out) HBB.out.size) (by rw [← e]; exact Nat.not_lt.2 hk)⟩)
      (case aOC => exact Kd.N_mono (Kd.N_below HM.out HBB.out) (fun k hk => ⟨.inl hk.1, hk.2⟩))
      (case aBC => exact HB.out.trans (HBB.out.mono HS.out))
      (case aSC => exact Nat.le_trans HS.out HBB.out.size)
      (case aLC => have := HKL.out; omega)
      intro v1 w5 ho hb hg hat
      obtain ⟨A5, c5, rfl⟩ := Kd.N_slice ho
      have e1 : (KM ++ [(⟨L, N⟩ : S74)]).length = KM.length + 1 := by simp
      rw [e1] at ho hat ⊢
      have hne : some kb ≠ (Value.slice Am KM.length cm).ownBlock := fun e => absurd rfl (HM.out.1 kb e.symm).2
      have hblk5 := blk_grown (blk_below HBL.out HBB.out) hg hne
      obtain ⟨hz0, hz1, hz2⟩ := kcells hblk5
      have hfz := blk_frozen hblk5 2
      have HO := Aside0.mk ho
      have HB5 := Aside0.mk hb
      have HG := Aside0.mk hg
      have HA := Aside0.mk hat
      have HBL5 := Aside0.mk hblk5
      have hblk6 : (w5.setCell ⟨kb, 2, none⟩ (.slice A5 (KM.length + 1) c5)).heap[kb]? = some (.cells #[.slice Al L.length cl, .int .i64 N, .slice A5 (KM.length + 1) c5] 77 (0, 0)) := blk_put hblk5 2 _ rfl
      have HBL6 := Aside0.mk hblk6
      clear ho hb hg hat hblk5 e1 hne hblk6
      refine hK.out _ _ ⟨hz0, hz1⟩ (fun hHeld => ?_)
      clear hK K
      try simp only [Act.put, List.setIfInBounds_toArray, List.set_cons_zero, List.set_cons_succ, List.getElem_toArray, List.getElem_cons_zero, List.getElem_cons_succ]
      refine wpAnyH_take (i := 19) (v := ?_) rfl (by kernel_rfl) (by kernel_rfl) (by kernel_rfl) (fun _ _ _ h => h) (Or.inl ⟨by rfl, ?_⟩) (by assumption) ?_
      rotate_left
      · (intro w hSw; (try dsimp only at hSw); go_simp; all_goals (with_reducible rfl))
      try simp only [Act.put, List.setIfInBounds_toArray, List.set_cons_zero, List.set_cons_succ, List.getElem_toArray, List.getElem_cons_zero, List.getElem_cons_succ]
      refine wpAnyH_take (i := 20) (v := ?_) rfl (by kernel_rfl) (by kernel_rfl) (by kernel_rfl) (fun _ _ _ h => h) (Or.inl ⟨by rfl, ?_⟩) (by assumption) ?_
      rotate_left
      · (intro w hSw; (try dsimp only at hSw); go_simp; all_goals (with_reducible rfl))
      try simp only [Act.put, List.setIfInBounds_toArray, List.set_cons_zero, List.set_cons_succ, List.getElem_toArray, List.getElem_cons_zero, List.getElem_cons_succ]
      refine wpAnyH_ready (rs := [21]) (by kernel_rfl) (by simp) ?_
      refine AllReadyH.cons rfl (fun K hK => ?_) AllReadyH.nil
      go_simp
      refine hK.out _ _ ⟨(kcells HBL6.out).1, (kcells HBL6.out).2.1⟩ (fun hHeld => ?_)
      refine wpAnyH_done (by kernel_rfl) ?_ _
      go_end0
      have e1 : (KM ++ [(⟨L, N⟩ : S74)]).length = KM.length + 1 := by simp
      have hml := Kd.N_lt HM.out
      have hkl := blk_lt HBL.out
      have hsB := HBB.out.size
      refine ⟨rfl, ⟨Al, cl, A5, c5, .inl HT.out, HKB.out, by rw [e1]; exact HBL6.out, HLE.out, ?_, ?_⟩, HB5.out.setCell (p := ⟨kb, 2, none⟩) HKB.out _, Kept.setCell (Kept.of_grown HG.out (Kept.of_below HBB.out T) (fun k hk => .inl (HM.out.1 k hk).1)) (p := ⟨kb, 2, none⟩) (.inl HT.out) _⟩
      · rw [e1]
        refine Kd.F_mono (Kd.F_far (Kd.F_grown (Kd.F_below (Kd.F_bound HF.out) HBB.out) HG.out (fun k hk => hk.1.2.2)) (p := ⟨kb, 2, none⟩) (fun k hk e => hk.1.2.1 e) _) (fun k hk => ⟨.inl hk.1.1, hk.1.2.1, fun e => ?_⟩)
        rcases HA.out with e2 | ⟨b, e2, hb2⟩
        · exact hk.1.2.2 (e.trans e2)
        · rw [e2] at e; cases e; have := hk.2; omega
      · rw [e1]
        exact Kd.N_far HO.out (p := ⟨kb, 2, none⟩) (fun k hk e => hk.2 e) _
end
end Go.Proofs.Ytcjachhdoogbaaa.PT
