/- The document's Back. No conditions but the lengths' bounds. -/
import Derived.Test.YtcjachhdoogbaaaTRMark
set_option linter.unusedVariables false
set_option linter.unusedSimpArgs false
namespace Go.Proofs.Ytcjachhdoogbaaa.PT
open Go.RowKit Go.Proofs.YtcjachhdoogbaaaW.PrintWords Go.Proofs.YtcjachhdoogbaaaW.PrintLast Go.Proofs.YtcjachhdoogbaaaW.PrintMore
section
variable {T T' : Nat → Prop} {w w1 w0 : World} {base kb : Nat} {L : List (List S62)} {N : Int} {KM : List S74}
set_option maxRecDepth 100000
set_option maxHeartbeats 8000000
theorem far_cell {w : World} {p a : Addr} {u v : Value} {b : Nat} (hne : b ≠ p.block) (h : w.cell? a = some v) (hb : a.block = b) : (w.setCell p u).cell? a = some v := (World.cell?_of_block (w := w) (Below.heap_setCell w p u a.block (by rw [hb]; exact hne))).trans h
theorem rback_none (h : RSt T w base kb L N []) : Calls Try.prog 30 #[.pointer (some ⟨kb, 0, none⟩)] w fun e w' => e = .returned (.int .i64 30) ∧ Below w.heap.size w w' := by
  obtain ⟨Al, cl, Am, cm, hT, hkb, hblk, hle, hF, hm⟩ := h
  obtain ⟨hk0, hk1, hk2⟩ := kcells hblk
  have hk2 : w.cell? ⟨kb, 2, none⟩ = some (.slice Am 0 cm) := hk2
  clear hT hkb hblk hle hF hm hk0 hk1
  go_enter Try.func30, Try.ntmps30
  go_wp2
  go_ret
  exact ⟨rfl, Below.refl _ _⟩
theorem rback_calls (p : S74) (h : RSt T w base kb L N (KM ++ [p])) (hB : Below base w0 w) (hbase : base ≤ w.heap.size) (hL : p.f0.length ≤ 8 ∧ ∀ x ∈ p.f0, x.length ≤ 10000) (hKL : KM.length ≤ 100000) :
    Calls Try.prog 30 #[.pointer (some ⟨kb, 0, none⟩)] w fun e w' => e = .returned (.int .i64 0) ∧ RSt (fun k => T k ∨ w.heap.size ≤ k) w' base kb p.f0 p.f1 KM ∧ Below base w0 w' ∧ Kept w w' T := by
  obtain ⟨Al, cl, Am, cm, hT, hkb, hblk, hle, hF, hm⟩ := h
  obtain ⟨n, hn⟩ : ∃ n, n = (KM ++ [p]).length := ⟨_, rfl⟩
  have hn1 : n = KM.length + 1 := by rw [hn]; simp
  obtain ⟨t, ht⟩ : ∃ t, t = KM.length := ⟨_, rfl⟩
  rw [← hn] at hblk hF hm
  obtain ⟨hk0, hk1, hk2⟩ := kcells hblk
  have hmc := (Kd.N_reads' hm).2.2
  rw [← hn] at hmc
  obtain ⟨am, B, b, e, hx0, hx1, hlb, hcb⟩ := at_T74 hmc (t : Int) (by omega) (by omega)
  have erd : rd_T74 (KM ++ [p]) (t : Int) = p := by rw [rd_T74, Int.toNat_natCast, ht]; simp [List.getD_eq_getElem?_getD]
  rw [Int.toNat_natCast, erd] at hx0
  rw [Int.toNat_natCast, erd] at hx1
  rw [erd] at hlb hcb
  cases e
  have q0 : ((n : Int) == 0) = false := by rw [beq_eq_false_iff_ne]; omega
  have q1 : (n == 0) = false := by rw [beq_eq_false_iff_ne]; omega
  have q2 : decide (n = 0) = false := decide_eq_false (by omega)
  have hw : IntKind.i64.wrap ((n : Int) - 1) = (t : Int) := by rw [IntKind.wrap_i64]; omega
  have hw2 : wrap64 ((n : Int) - 1) = (t : Int) := by rw [wrap_id _ (by omega)]; omega
  have p1 := eq_true (show (t : Int) < (n : Int) by omega)
  have p2 := eq_true (show t < n by omega)
  have HT := Aside0.mk hT
  have HKB := Aside0.mk hkb
  have HBL := Aside0.mk hblk
  have HM := Aside0.mk hm
  have HB := Aside0.mk hB
  have HS := Aside0.mk hbase
  have HL := Aside0.mk hL
  have HKL := Aside0.mk hKL
  have HTN := Aside0.mk (show t = KM.length ∧ n = t + 1 from ⟨ht, by omega⟩)
  have HX := Aside0.mk (And.intro hlb hcb)
  have HXC := Aside0.mk (And.intro hx0 hx1)
  have hu3 := Try.underlying3
  have hu28 := Try.underlying28
  have hu74 := Try.underlying74
  have hu75 := Try.underlying75
  have hu77 := Try.underlying77
  have HB0 := Aside0.mk (below_drew (Below.refl w.heap.size w))
  clear hT hkb hblk hle hF hm hB hbase hL hKL hn hn1 ht hmc erd hlb hcb
  go_enter Try.func30, Try.ntmps30
  go_wp2_with fail
  refine wp_region_held_drew (S := (fun W => W.cell? ⟨kb, 2, none⟩ = some (.slice (some am) n cm) ∧ W.cell? (am.add (t * 2)) = some (.slice B p.f0.length b) ∧ W.cell? ⟨(am.add (t * 2)).block, (am.add (t * 2)).off + 1, none⟩ = some (.int .i64 p.f1))) (by kernel_rfl) ⟨hk2, hx0, hx1⟩ (fun hHeld => ?_)
  refine wpAnyH_take (i := 0) (v := ?_) rfl (by kernel_rfl) (by kernel_rfl) (by kernel_rfl) (fun _ _ _ h => h) (Or.inl ⟨by rfl, ?_⟩) (by assumption) ?_
  rotate_left
  · (intro w hSw; (try dsimp only at hSw); go_simp; all_goals (with_reducible rfl))
  try simp only [Act.put, List.setIfInBounds_toArray, List.set_cons_zero, List.set_cons_succ, List.getElem_toArray, List.getElem_cons_zero, List.getElem_cons_succ]
  refine wpAnyH_take (i := 1) (v := ?_) rfl (by kernel_rfl) (by kernel_rfl) (by kernel_rfl) (fun _ _ _ h => h) (Or.inl ⟨by rfl, ?_⟩) (by assumption) ?_
  rotate_left
  · (intro w hSw; (try dsimp only at hSw); go_simp; all_goals (with_reducible rfl))
  try simp only [Act.put, List.setIfInBounds_toArray, List.set_cons_zero, List.set_cons_succ, List.getElem_toArray, List.getElem_cons_zero, List.getElem_cons_succ]
  refine wpAnyH_take (i := 2) (v := ?_) rfl (by kernel_rfl) (by kernel_rfl) (by kernel_rfl) (fun _ _ _ h => h) (Or.inl ⟨by rfl, ?_⟩) (by assumption) ?_
  rotate_left
  · (intro w hSw; (try dsimp only at hSw); go_simp; all_goals (with_reducible rfl))
  try simp only [Act.put, List.setIfInBounds_toArray, List.set_cons_zero, List.set_cons_succ, List.getElem_toArray, List.getElem_cons_zero, List.getElem_cons_succ]
  refine wpAnyH_take (i := 3) (v := ?_) rfl (by kernel_rfl) (by kernel_rfl) (by kernel_rfl) (fun _ _ _ h => h) (Or.inl ⟨by rfl, ?_⟩) (by assumption) ?_
  rotate_left
  · (intro w hSw; (try dsimp only at hSw); go_simp; all_goals (with_reducible rfl))
  try simp only [Act.put, List.setIfInBounds_toArray, List.set_cons_zero, List.set_cons_succ, List.getElem_toArray, List.getElem_cons_zero, List.getElem_cons_succ]
  refine wpAnyH_take (i := 4) (v := ?_) rfl (by kernel_rfl) (by kernel_rfl) (by kernel_rfl) (fun _ _ _ h => h) (Or.inl ⟨by rfl, ?_⟩) (by assumption) ?_
  rotate_left
  · (intro w hSw; (try dsimp only at hSw); go_simp; all_goals (with_reducible rfl))
  try simp only [Act.put, List.setIfInBounds_toArray, List.set_cons_zero, List.set_cons_succ, List.getElem_toArray, List.getElem_cons_zero, List.getElem_cons_succ]
  refine wpAnyH_take (i := 5) (v := ?_) rfl (by kernel_rfl) (by kernel_rfl) (by kernel_rfl) (fun _ _ _ h => h) (Or.inl ⟨by rfl, ?_⟩) (by assumption) ?_
  rotate_left
  · (intro w hSw; (try dsimp only at hSw); go_simp; all_goals (with_reducible rfl))
  try simp only [Act.put, List.setIfInBounds_toArray, List.set_cons_zero, List.set_cons_succ, List.getElem_toArray, List.getElem_cons_zero, List.getElem_cons_succ]
  refine wpAnyH_take (i := 6) (v := ?_) rfl (by kernel_rfl) (by kernel_rfl) (by kernel_rfl) (fun _ _ _ h => h) (Or.inl ⟨by rfl, ?_⟩) (by assumption) ?_
  rotate_left
  · (intro w hSw; (try dsimp only at hSw); go_simp; all_goals (with_reducible rfl))
  try simp only [Act.put, List.setIfInBounds_toArray, List.set_cons_zero, List.set_cons_succ, List.getElem_toArray, List.getElem_cons_zero, List.getElem_cons_succ]
  refine wpAnyH_take (i := 7) (v := ?_) rfl (by kernel_rfl) (by kernel_rfl) (by kernel_rfl) (fun _ _ _ h => h) (Or.inl ⟨by rfl, ?_⟩) (by assumption) ?_
  rotate_left
  · (intro w hSw; (try dsimp only at hSw); go_simp; all_goals (with_reducible rfl))
  try simp only [Act.put, List.setIfInBounds_toArray, List.set_cons_zero, List.set_cons_succ, List.getElem_toArray, List.getElem_cons_zero, List.getElem_cons_succ]
  refine wpAnyH_take (i := 8) (v := ?_) rfl (by kernel_rfl) (by kernel_rfl) (by kernel_rfl) (fun _ _ _ h => h) (Or.inl ⟨by rfl, ?_⟩) (by assumption) ?_
  rotate_left
  · (intro w hSw; (try dsimp only at hSw); go_simp; all_goals (with_reducible rfl))
  try simp only [Act.put, List.setIfInBounds_toArray, List.set_cons_zero, List.set_cons_succ, List.getElem_toArray, List.getElem_cons_zero, List.getElem_cons_succ]
  refine wpAnyH_take (i := 9) (v := ?_) rfl (by kernel_rfl) (by kernel_rfl) (by kernel_rfl) (fun _ _ _ h => h) (Or.inl ⟨by rfl, ?_⟩) (by assumption) ?_
  rotate_left
  · (intro w hSw; (try dsimp only at hSw); go_simp; all_goals (with_reducible rfl))
  try simp only [Act.put, List.setIfInBounds_toArray, List.set_cons_zero, List.set_cons_succ, List.getElem_toArray, List.getElem_cons_zero, List.getElem_cons_succ]
  refine wpAnyH_take (i := 11) (v := ?_) rfl (by kernel_rfl) (by kernel_rfl) (by kernel_rfl) (fun _ _ _ h => h) (Or.inl ⟨by rfl, ?_⟩) (by assumption) ?_
  rotate_left
  · (intro w hSw; (try dsimp only at hSw); go_simp; all_goals (with_reducible rfl))
  try simp only [Act.put, List.setIfInBounds_toArray, List.set_cons_zero, List.set_cons_succ, List.getElem_toArray, List.getElem_cons_zero, List.getElem_cons_succ]
  refine wpAnyH_take (i := 12) (v := ?_) rfl (by kernel_rfl) (by kernel_rfl) (by kernel_rfl) (fun _ _ _ h => h) (Or.inl ⟨by rfl, ?_⟩) (by assumption) ?_
  rotate_left
  · (intro w hSw; (try dsimp only at hSw); go_simp; all_goals (with_reducible rfl))
  try simp only [Act.put, List.setIfInBounds_toArray, List.set_cons_zero, List.set_cons_succ, List.getElem_toArray, List.getElem_cons_zero, List.getElem_cons_succ]
  refine wpAnyH_take (i := 13) (v := ?_) rfl (by kernel_rfl) (by kernel_rfl) (by kernel_rfl) (fun _ _ _ h => h) (Or.inl ⟨by rfl, ?_⟩) (by assumption) ?_
  rotate_left
  · (intro w hSw; (try dsimp only at hSw); go_simp; all_goals (with_reducible rfl))
  try simp only [Act.put, List.setIfInBounds_toArray, List.set_cons_zero, List.set_cons_succ, List.getElem_toArray, List.getElem_cons_zero, List.getElem_cons_succ]
  refine wpAnyH_take (i := 14) (v := ?_) rfl (by kernel_rfl) (by kernel_rfl) (by kernel_rfl) (fun _ _ _ h => h) (Or.inl ⟨by rfl, ?_⟩) (by assumption) ?_
  rotate_left
  · (intro w hSw; (try dsimp only at hSw); go_simp; all_goals (with_reducible rfl))
  try simp only [Act.put, List.setIfInBounds_toArray, List.set_cons_zero, List.set_cons_succ, List.getElem_toArray, List.getElem_cons_zero, List.getElem_cons_succ]
  refine wpAnyH_take (i := 15) (v := ?_) rfl (by kernel_rfl) (by kernel_rfl) (by kernel_rfl) (fun _ _ _ h => h) (Or.inl ⟨by rfl, ?_⟩) (by assumption) ?_
  rotate_left
  · (intro w hSw; (try dsimp only at hSw); go_simp; all_goals (with_reducible rfl))
  try simp only [Act.put, List.setIfInBounds_toArray, List.set_cons_zero, List.set_cons_succ, List.getElem_toArray, List.getElem_cons_zero, List.getElem_cons_succ]
  refine wpAnyH_take (i := 16) (v := ?_) rfl (by kernel_rfl) (by kernel_rfl) (by kernel_rfl) (fun _ _ _ h => h) (Or.inl ⟨by rfl, ?_⟩) (by assumption) ?_
  rotate_left
  · (intro w hSw; (try dsimp only at hSw); go_simp; all_goals (with_reducible rfl))
  try simp only [Act.put, List.setIfInBounds_toArray, List.set_cons_zero, List.set_cons_succ, List.getElem_toArray, List.getElem_cons_zero, List.getElem_cons_succ]
  refine wpAnyH_take (i := 17) (v := ?_) rfl (by kernel_rfl) (by kernel_rfl) (by kernel_rfl) (fun _ _ _ h => h) (Or.inl ⟨by rfl, ?_⟩) (by assumption) ?_
  rotate_left
  · (intro w hSw; (try dsimp only at hSw); go_simp; all_goals (with_reducible rfl))
  try simp only [Act.put, List.setIfInBounds_toArray, List.set_cons_zero, List.set_cons_succ, List.getElem_toArray, List.getElem_cons_zero, List.getElem_cons_succ]
  refine wpAnyH_take (i := 18) (v := ?_) rfl (by kernel_rfl) (by kernel_rfl) (by kernel_rfl) (fun _ _ _ h => h) (Or.inl ⟨by rfl, ?_⟩) (by assumption) ?_
  rotate_left
  · (intro w hSw; (try dsimp only at hSw); go_simp; all_goals (with_reducible rfl))
  try simp only [Act.put, List.setIfInBounds_toArray, List.set_cons_zero, List.set_cons_succ, List.getElem_toArray, List.getElem_cons_zero, List.getElem_cons_succ]
  refine wpAnyH_take (i := 19) (v := ?_) rfl (by kernel_rfl) (by kernel_rfl) (by kernel_rfl) (fun _ _ _ h => h) (Or.inl ⟨by rfl, ?_⟩) (by assumption) ?_
  rotate_left
  · (intro w hSw; (try dsimp only at hSw); go_simp; all_goals (with_reducible rfl))
  try simp only [Act.put, List.setIfInBounds_toArray, List.set_cons_zero, List.set_cons_succ, List.getElem_toArray, List.getElem_cons_zero, List.getElem_cons_succ]
  refine wpAnyH_ready (rs := [10]) (by kernel_rfl) (by simp) ?_
  refine AllReadyH.cons rfl (fun K hK => ?_) AllReadyH.nil
  go_simp
  go_at_call 42
  refine (s_lists B b p.f0 (World.drew w) (Kd.C_below HX.out.2 HB0.out) HX.out.1 (by have := HL.out.1; omega) (fun x hx => by have := HL.out.2 x hx; omega)).mono ?_
  rintro e wB ⟨A2, c2, rfl, hf, hb⟩
  have HFR := Aside0.mk hf
  have HBB := Aside0.mk (HB0.out.trans (hb.mono HB0.out.size))
  obtain ⟨ha0, ha1, ha2⟩ := kcells (blk_below HBL.out HBB.out)
  have hS1 : wB.cell? ⟨kb, 2, none⟩ = some (.slice (some am) n cm) ∧ wB.cell? (am.add (t * 2)) = some (.slice B p.f0.length b) ∧ wB.cell? ⟨(am.add (t * 2)).block, (am.add (t * 2)).off + 1, none⟩ = some (.int .i64 p.f1) := ⟨ha2, (HBB.out.cell (World.block_lt_of_cell? w _ HXC.out.1)).trans HXC.out.1, (HBB.out.cell (World.block_lt_of_cell? w _ HXC.out.2)).trans HXC.out.2⟩
  have hz0 := blk_frozen (blk_below HBL.out HBB.out) 0
  have hz1 := blk_frozen (blk_below HBL.out HBB.out) 1
  have hz1a := (fun u => blk_frozen (blk_set (blk_below HBL.out HBB.out) 0 u) 1)
  have hc1a := (fun u => blk_cell (blk_set (blk_below HBL.out HBB.out) 0 u) 1)
  clear hf hb
  go_wp2_with fail
  refine hK.out _ _ hS1 (fun hHeld => ?_)
  clear hK K
  try simp only [Act.put, List.setIfInBounds_toArray, List.set_cons_zero, List.set_cons_succ, List.getElem_toArray, List.getElem_cons_zero, List.getElem_cons_succ]
  refine wpAnyH_take (i := 20) (v := ?_) rfl (by kernel_rfl) (by kernel_rfl) (by kernel_rfl) (fun _ _ _ h => h) (Or.inl ⟨by rfl, ?_⟩) (by assumption) ?_
  rotate_left
  · (intro w hSw; (try dsimp only at hSw); go_simp; all_goals (with_reducible rfl))
  try simp only [Act.put, List.setIfInBounds_toArray, List.set_cons_zero, List.set_cons_succ, List.getElem_toArray, List.getElem_cons_zero, List.getElem_cons_succ]
  refine wpAnyH_take (i := 21) (v := ?_) rfl (by kernel_rfl) (by kernel_rfl) (by kernel_rfl) (fun _ _ _ h => h) (Or.inl ⟨by rfl, ?_⟩) (by assumption) ?_
  rotate_left
  · (intro w hSw; (try dsimp only at hSw); go_simp; all_goals (with_reducible rfl))
  try simp only [Act.put, List.setIfInBounds_toArray, List.set_cons_zero, List.set_cons_succ, List.getElem_toArray, List.getElem_cons_zero, List.getElem_cons_succ]
  refine wpAnyH_take (i := 22) (v := ?_) rfl (by kernel_rfl) (by kernel_rfl) (by kernel_rfl) (fun _ _ _ h => h) (Or.inl ⟨by rfl, ?_⟩) (by assumption) ?_
  rotate_left
  · (intro w hSw; (try dsimp only at hSw); go_simp; all_goals (with_reducible rfl))
  try simp only [Act.put, List.setIfInBounds_toArray, List.set_cons_zero, List.set_cons_succ, List.getElem_toArray, List.getElem_cons_zero, List.getElem_cons_succ]
  refine wpAnyH_ready (rs := [23]) (by kernel_rfl) (by simp) ?_
  refine AllReadyH.cons rfl (fun K hK => ?_) AllReadyH.nil
  go_simp
  have hblk7 : ((wB.setCell ⟨kb, 0, none⟩ (.slice A2 p.f0.length c2)).setCell ⟨kb, 1, none⟩ (.int .i64 p.f1)).heap[kb]? = some (.cells #[.slice A2 p.f0.length c2, .int .i64 p.f1, .slice (some am) n cm] 77 (0, 0)) := blk_put (blk_put (blk_below HBL.out HBB.out) 0 _ rfl) 1 _ rfl
  have hnk : am.block ≠ kb := (HM.out.1 am.block rfl).2
  have hS7 : ((wB.setCell ⟨kb, 0, none⟩ (.slice A2 p.f0.length c2)).setCell ⟨kb, 1, none⟩ (.int .i64 p.f1)).cell? ⟨kb, 2, none⟩ = some (.slice (some am) n cm) ∧ ((wB.setCell ⟨kb, 0, none⟩ (.slice A2 p.f0.length c2)).setCell ⟨kb, 1, none⟩ (.int .i64 p.f1)).cell? (am.add (t * 2)) = some (.slice B p.f0.length b) ∧ ((wB.setCell ⟨kb, 0, none⟩ (.slice A2 p.f0.length c2)).setCell ⟨kb, 1, none⟩ (.int .i64 p.f1)).cell? ⟨(am.add (t * 2)).block, (am.add (t * 2)).off + 1, none⟩ = some (.int .i64 p.f1) := ⟨(kcells hblk7).2.2, far_cell hnk (far_cell hnk hS1.2.1 (by rw [at_block])) (by rw [at_block]), far_cell hnk (far_cell hnk hS1.2.2 (by rw [at_block])) (by rw [at_block])⟩
  refine hK.out _ _ hS7 (fun hHeld => ?_)
  clear hK K
  try simp only [Act.put, List.setIfInBounds_toArray, List.set_cons_zero, List.set_cons_succ, List.getElem_toArray, List.getElem_cons_zero, List.getElem_cons_succ]
  refine wpAnyH_done (by kernel_rfl) ?_ _
  have hkl := blk_lt HBL.out
  have hml := Kd.N_lt HM.out
  have hb7 : Below base w0 ((wB.setCell ⟨kb, 0, none⟩ (.slice A2 p.f0.length c2)).setCell ⟨kb, 1, none⟩ (.int .i64 p.f1)) := ((HB.out.trans (HBB.out.mono HS.out)).setCell (p := ⟨kb, 0, none⟩) HKB.out _).setCell (p := ⟨kb, 1, none⟩) HKB.out _
  have hk7 : Kept w ((wB.setCell ⟨kb, 0, none⟩ (.slice A2 p.f0.length c2)).setCell ⟨kb, 1, none⟩ (.int .i64 p.f1)) T := Kept.setCell (Kept.setCell (Kept.of_below HBB.out T) (p := ⟨kb, 0, none⟩) (.inl HT.out) _) (p := ⟨kb, 1, none⟩) (.inl HT.out) _
  have hm7 : Kd.N k74 74 ((wB.setCell ⟨kb, 0, none⟩ (.slice A2 p.f0.length c2)).setCell ⟨kb, 1, none⟩ (.int .i64 p.f1)) base (fun k => T k ∧ k ≠ kb) (.slice (some am) n cm) (KM ++ [p]) := Kd.N_far (Kd.N_far (Kd.N_below HM.out HBB.out) (p := ⟨kb, 0, none⟩) (fun k hk e => hk.2 e) _) (p := ⟨kb, 1, none⟩) (fun k hk e => hk.2 e) _
  have hf7 : Kd.F kL ((wB.setCell ⟨kb, 0, none⟩ (.slice A2 p.f0.length c2)).setCell ⟨kb, 1, none⟩ (.int .i64 p.f1)) (fun k => w.heap.size ≤ k ∧ k < wB.heap.size) A2 p.f0.length p.f0 := Kd.F_far (Kd.F_far (Kd.F_mono (Kd.F_bound HFR.out.2) (fun k hk => ⟨hk.1, hk.2⟩)) (p := ⟨kb, 0, none⟩) (fun k hk e => by have : k = kb := e; have := hk.1; omega) _) (p := ⟨kb, 1, none⟩) (fun k hk e => by have : k = kb := e; have := hk.1; omega) _
  have hs7 : wB.heap.size = ((wB.setCell ⟨kb, 0, none⟩ (.slice A2 p.f0.length c2)).setCell ⟨kb, 1, none⟩ (.int .i64 p.f1)).heap.size := by simp [World.setCell]
  obtain ⟨w7, hw7⟩ : ∃ w7, w7 = (wB.setCell ⟨kb, 0, none⟩ (.slice A2 p.f0.length c2)).setCell ⟨kb, 1, none⟩ (.int .i64 p.f1) := ⟨_, rfl⟩
  rw [← hw7] at hblk7 hb7 hk7 hm7 hf7 hs7 ⊢
  have HBL7 := Aside0.mk hblk7
  have HB7 := Aside0.mk hb7
  have HK7 := Aside0.mk hk7
  have HM7 := Aside0.mk hm7
  have HF7 := Aside0.mk hf7
  have HS7 := Aside0.mk (show wB.heap.size = w7.heap.size ∧ w.heap.size ≤ w7.heap.size from ⟨hs7, by have := HBB.out.size; omega⟩)
  have hc7 := (kcells hblk7).2.2
  have hcut : ∀ W : World, (Instr.slice 75 (.slice (some am) n cm) none (some (.int .i64 (t : Int))) none).run Try.prog W = .ok (.slice (some am) t cm) W := by
    obtain ⟨i74, hi74, _, _, _⟩ := info_parts info74
    have := cut_to (P := Try.prog) 75 74 .i64 Try.underlying75 hi74 (some am) n cm (t : Int) (by omega) (by have := HTN.out; omega) (Kd.N_reads' HM7.out).2.1
    rwa [Int.toNat_natCast] at this
  have hFT : Kd.F k74 w7 (fun k => (T k ∧ k ≠ kb) ∧ k < w7.heap.size) (some am) t KM := by
    have h1 := Kd.N_F HM7.out
    have hn2 : n = (KM ++ [p]).length := by have := HTN.out; simp; omega
    rw [hn2] at h1
    have h2 := Kd.F_take (m := t) h1 (by have := HTN.out; simp; omega)
    have h3 : (KM ++ [p]).take t = KM := by rw [HTN.out.1]; simp
    rw [h3] at h2
    rw [HTN.out.1]
    exact Kd.F_bound h2
  have HFT := Aside0.mk hFT
  clear hblk7 hb7 hk7 hm7 hf7 hs7 hw7 hFT hnk hS7 hS1 hHeld hk0 hk1 hk2 hx0 hx1 ha0 ha1 ha2 hz0 hz1 hz1a hc1a
  go_wp2_with (first
    | ((with_reducible refine gate_dst (N := 35) rfl ?_); refine Kd.N_lit k74 (w0 := w7) w7.heap.size 74 ?hg (N' := 35) ?hd (xs := ([] : List S74)) (inner := []) (ok := fun k => (T k ∨ w.heap.size ≤ k) ∧ k ≠ kb) (okp := fun _ => False) ?hr ?hp (fun _ hk => hk.elim) ⟨.inr HS7.out.2, fun e => by have := HS7.out.2; omega⟩ (Below.refl _ _) (Nat.le_refl _) (by simp) ?_; (case hd => rfl); (case hg => rfl); (case hr => first | (go_simp; done) | (go_simp; rfl)); (case hp => exact (Reps.none _ _)); intro v1 w8 hN hb hg hat; have HN8 := Aside0.mk hN; have HB8 := Aside0.mk hb; have HA8 := Aside0.mk hat; have hc8 := (kcells (blk_below HBL7.out hb)).2.2; clear hN hb hg hat)
    | ((with_reducible refine gate_builtin (b := .append) (xs := #[.tmp 35, .tmp 42]) rfl ?_); at_builtin; refine Kd.N_append_rows k74 (w0 := w7) w7.heap.size rfl (.tmp 35) (.tmp 42) 75 74 (.agg #[.slice none 0 0, .int .i64 0]) 32 rfl Try.underlying75 info74 rfl (by decide) (by omega) v1 [] KM (some am) t cm (fun k => (T k ∨ w.heap.size ≤ k) ∧ k ≠ kb) (fun k => (T k ∧ k ≠ kb) ∧ k < w7.heap.size) rfl rfl HN8.out (Kd.F_below HFT.out HB8.out) ?aK ?aF HB8.out HB8.out.size (by have := HTN.out; have := HKL.out; rw [List.length_nil]; omega) ?_; (case aK => exact fun k hk => ⟨⟨.inl hk.1.1, hk.1.2⟩, fun he => by obtain ⟨b, hb, hlt⟩ := HA8.out; rw [hb] at he; cases he; have := hk.2; omega⟩); (case aF => exact fun k hk => ⟨.inr (Nat.le_trans (Nat.le_trans HS7.out.2 HB8.out.size) hk), fun e => by have := HS7.out.2; have := HB8.out.size; omega⟩); intro v2 w9 hN9 hb9 hg9 hat9; obtain ⟨A9, c9, rfl⟩ := Kd.N_slice hN9; have HN9 := Aside0.mk hN9; have HB9 := Aside0.mk hb9; have hblk9 := blk_below HBL7.out hb9; have hc9 := (kcells hblk9).2.2; have hz9 := blk_frozen hblk9 2; have HBL9 := Aside0.mk hblk9; clear hN9 hb9 hg9 hat9 hblk9))
  go_ret
  have hlt := blk_lt HBL9.out
  refine ⟨rfl, ⟨A2, c2, A9, c9, .inl HT.out, HKB.out, blk_put HBL9.out 2 _ rfl, HFR.out.1, Kd.F_mono (Kd.F_far (Kd.F_below HF7.out HB9.out) (p := ⟨kb, 2, none⟩) (fun k hk e => by have : k = kb := e; have := hk.1; omega) _) (fun k hk => ⟨.inr hk.1, fun e => by have : k = kb := e; have := hk.1; have := blk_lt HBL.out; omega, fun e => by have h1 := Kd.N_base HN9.out k e.symm; have := hk.2; have := HS7.out.1; omega⟩), Kd.N_far (Kd.N_lower HN9.out (Nat.le_trans HS.out HS7.out.2)) (p := ⟨kb, 2, none⟩) (fun k hk e => hk.2 e) _⟩, ((HB7.out.trans (HB9.out.mono (Nat.le_trans HS.out HS7.out.2))).setCell (p := ⟨kb, 2, none⟩) HKB.out _), Kept.setCell (Kept.below HK7.out HB9.out) (p := ⟨kb, 2, none⟩) (.inl HT.out) _⟩
end
end Go.Proofs.Ytcjachhdoogbaaa.PT
