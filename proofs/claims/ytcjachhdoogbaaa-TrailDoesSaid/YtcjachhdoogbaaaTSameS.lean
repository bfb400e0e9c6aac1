/- same: a store of package trail and the document's that tell the same: the answer is true, and nothing that was there is changed. No conditions but the lengths' bounds. -/
import Derived.Test.YtcjachhdoogbaaaTOwn
set_option linter.unusedVariables false
set_option linter.unusedSimpArgs false
namespace Go.Proofs.Ytcjachhdoogbaaa.PT
open Go.RowKit Go.Proofs.YtcjachhdoogbaaaW.PrintWords Go.Proofs.YtcjachhdoogbaaaW.PrintLast Go.Proofs.YtcjachhdoogbaaaW.PrintMore
theorem kcells {w : World} {kb : Nat} {a b c : Value} (h : w.heap[kb]? = some (.cells #[a, b, c] 77 (0, 0))) : w.cell? ⟨kb, 0, none⟩ = some a ∧ w.cell? ⟨kb, 1, none⟩ = some b ∧ w.cell? ⟨kb, 2, none⟩ = some c := ⟨blk_cell h 0, blk_cell h 1, blk_cell h 2⟩
theorem blk_at {w : World} {ad : Addr} {b n j : Nat} {arr : Array Value} (ha : ad = ⟨b, 0, none⟩) (h : w.heap[b]? = some (.cells arr 62 (0, 0))) (h2 : 2 * n ≤ arr.size) (hj : j < n) : (∃ v, w.cell? (ad.add (j * 2)) = some v) ∧ w.frozen? (ad.add (j * 2)) = false ∧ ad.add (j * 2) = ⟨b, j * 2, none⟩ := by
  subst ha
  rw [add_plain]
  have hlt : j * 2 < arr.size := by omega
  exact ⟨⟨_, (blk_cell h (j * 2)).trans (Array.getElem?_eq_getElem hlt)⟩, blk_frozen h _, rfl⟩
set_option maxRecDepth 100000
set_option maxHeartbeats 8000000
theorem same_calls {T : Nat → Prop} {w0 w : World} {base g n kb cl cm : Nat} {L : List (List S62)} {C : List S67} {M : List Int} {Al Am : Option Addr} (h : Stat T w0 w base g L C M n)
    (hk : w.heap[kb]? = some (.cells #[.slice Al L.length cl, .int .i64 (C.length : Int), .slice Am M.length cm] 77 (0, 0))) (hC : Kd.C kL w Al L.length L) (hcl : L.length ≤ cl) :
    Calls Try.prog 21 #[.pointer (some ⟨g, 0, none⟩), .pointer (some ⟨kb, 0, none⟩)] w fun e w' => e = .returned (.bool true) ∧ Below w.heap.size w w' := by
  have HS := Aside0.mk h
  have HK := Aside0.mk hk
  have HC := Aside0.mk hC
  have HCL := Aside0.mk hcl
  have HSM := Aside0.mk h.good.small
  have HL6 := Aside0.mk h.good.len
  clear h hk hC hcl
  have hu25 := Try.underlying25
  have hu3 := Try.underlying3
  have hu28 := Try.underlying28
  have hu31 := Try.underlying31
  have hu39 := Try.underlying39
  have hu62 := Try.underlying62
  have hu74 := Try.underlying74
  have hu75 := Try.underlying75
  have hu77 := Try.underlying77
  go_enter Try.func21, Try.ntmps21
  go_wp2_with fail
  refine (allO_calls HS.out.st (fun x hx => by have := HSM.out x hx; omega) (by have := HL6.out; omega)).mono ?_
  rintro e w1 ⟨v, rfl, hN, hb⟩
  obtain ⟨A5, c5, rfl, hle5, _⟩ := Kd.N_reads hN
  obtain ⟨b5, arr5, hR⟩ := rws_of_N hb.size hN
  obtain ⟨ad5, had5⟩ : ∃ ad5 : Addr, ad5 = ⟨b5, 0, none⟩ := ⟨_, rfl⟩
  have HAD5 := Aside0.mk had5
  have HR := Aside0.mk (show 0 < L.length → A5 = some ad5 ∧ Rws w w1 b5 arr5 L from fun h => ⟨by rw [had5]; exact (hR h).1, (hR h).2⟩)
  have HF := Aside0.mk (And.intro hle5 (Kd.C_below (Kd.F_now (Kd.N_F (N_ranges hN))) (below_drew (Below.refl w1.heap.size w1))))
  have HB0 := Aside0.mk (hb.trans (below_drew (Below.refl w1.heap.size w1) |>.mono hb.size))
  have hS0 : (World.drew w1).cell? ⟨kb, 0, none⟩ = some (.slice Al L.length cl) ∧ (World.drew w1).cell? ⟨kb, 1, none⟩ = some (.int .i64 (C.length : Int)) ∧ (World.drew w1).cell? ⟨kb, 2, none⟩ = some (.slice Am M.length cm) := kcells (blk_below HK.out HB0.out)
  clear hN hb hR had5 hle5
  go_wp2_with fail
  refine wp_region_held_drew (S := (fun W => W.cell? ⟨kb, 0, none⟩ = some (.slice Al L.length cl) ∧ W.cell? ⟨kb, 1, none⟩ = some (.int .i64 (C.length : Int)) ∧ W.cell? ⟨kb, 2, none⟩ = some (.slice Am M.length cm))) (by kernel_rfl) hS0 (fun hHeld => ?_)
  refine wpAnyH_take (i := 0) (v := ?_) rfl (by kernel_rfl) (by kernel_rfl) (by kernel_rfl) (fun _ _ _ h => h) (Or.inl ⟨by rfl, ?_⟩) (by assumption) ?_
  rotate_left
  · (intro w hSw; (try dsimp only at hSw); go_simp; all_goals (with_reducible rfl))
  try simp only [Act.put, List.setIfInBounds_toArray, List.set_cons_zero, List.set_cons_succ, List.getElem_toArray, List.getElem_cons_zero, List.getElem_cons_succ]
  refine wpAnyH_take (i := 1) (v := ?_) rfl (by kernel_rfl) (by kernel_rfl) (by kernel_rfl) (fun _ _ _ h => h) (Or.inl ⟨by rfl, ?_⟩) (by assumption) ?_
  rotate_left
  · (intro w hSw; (try dsimp only at hSw); go_simp; all_goals (with_reducible rfl))
  try simp only [Act.put, List.setIfInBounds_toArray, List.set_cons_zero, List.set_cons_succ, List.getElem_toArray, List.getElem_cons_zero, List.getElem_cons_succ]
  refine wpAnyH_take (i := 2) (v := ?_) rfl (by kernel_rfl) (by kernel_rfl) (by kernel_rfl) (fun _ _ _ h => h) (Or.inl ⟨by rfl, ?_⟩) (by assumption) ?_
  rotate_left
  · (intro w hSw; (try dsimp only at hSw); go_simp; all_goals (with_reducible rfl))
  try simp only [Act.put, List.setIfInBounds_toArray, List.set_cons_zero, List.set_cons_succ, List.getElem_toArray, List.getElem_cons_zero, List.getElem_cons_succ]
  refine wpAnyH_take (i := 3) (v := ?_) rfl (by kernel_rfl) (by kernel_rfl) (by kernel_rfl) (fun _ _ _ h => h) (Or.inl ⟨by rfl, ?_⟩) (by assumption) ?_
  rotate_left
  · (intro w hSw; (try dsimp only at hSw); go_simp; all_goals (with_reducible rfl))
  try simp only [Act.put, List.setIfInBounds_toArray, List.set_cons_zero, List.set_cons_succ, List.getElem_toArray, List.getElem_cons_zero, List.getElem_cons_succ]
  refine wpAnyH_take (i := 4) (v := ?_) rfl (by kernel_rfl) (by kernel_rfl) (by kernel_rfl) (fun _ _ _ h => h) (Or.inl ⟨by rfl, ?_⟩) (by assumption) ?_
  rotate_left
  · (intro w hSw; (try dsimp only at hSw); go_simp; all_goals (with_reducible rfl))
  try simp only [Act.put, List.setIfInBounds_toArray, List.set_cons_zero, List.set_cons_succ, List.getElem_toArray, List.getElem_cons_zero, List.getElem_cons_succ]
  refine wpAnyH_take (i := 5) (v := ?_) rfl (by kernel_rfl) (by kernel_rfl) (by kernel_rfl) (fun _ _ _ h => h) (Or.inl ⟨by rfl, ?_⟩) (by assumption) ?_
  rotate_left
  · (intro w hSw; (try dsimp only at hSw); go_simp; all_goals (with_reducible rfl))
  try simp only [Act.put, List.setIfInBounds_toArray, List.set_cons_zero, List.set_cons_succ, List.getElem_toArray, List.getElem_cons_zero, List.getElem_cons_succ]
  refine wpAnyH_ready (rs := [6]) (by kernel_rfl) (by simp) ?_
  refine AllReadyH.cons rfl (fun K hK => ?_) AllReadyH.nil
  go_simp
  go_at_call 26
  refine (s_lsame A5 c5 L Al cl L (World.drew w1) HF.out.2 HF.out.1 (Kd.C_below HC.out HB0.out) HCL.out (by have := HL6.out; omega) HSM.out).mono ?_
  rintro e wa ⟨rfl, hb⟩
  rw [decide_eq_true (rfl : L = L)]
  have HBa := Aside0.mk hb
  have HB1 := Aside0.mk (HB0.out.trans (hb.mono HB0.out.size))
  have hS1 : wa.cell? ⟨kb, 0, none⟩ = some (.slice Al L.length cl) ∧ wa.cell? ⟨kb, 1, none⟩ = some (.int .i64 (C.length : Int)) ∧ wa.cell? ⟨kb, 2, none⟩ = some (.slice Am M.length cm) := kcells (blk_below HK.out HB1.out)
  clear hb
  go_wp2_with fail
  refine hK.out _ _ hS1 (fun hHeld => ?_)
  clear hK K
  try simp only [Act.put, List.setIfInBounds_toArray, List.set_cons_zero, List.set_cons_succ, List.getElem_toArray, List.getElem_cons_zero, List.getElem_cons_succ]
  refine wpAnyH_take (i := 7) (v := ?_) rfl (by kernel_rfl) (by kernel_rfl) (by kernel_rfl) (fun _ _ _ h => h) (Or.inl ⟨by rfl, ?_⟩) (by assumption) ?_
  rotate_left
  · (intro w hSw; (try dsimp only at hSw); go_simp; all_goals (with_reducible rfl))
  try simp only [Act.put, List.setIfInBounds_toArray, List.set_cons_zero, List.set_cons_succ, List.getElem_toArray, List.getElem_cons_zero, List.getElem_cons_succ]
  refine wpAnyH_take (i := 8) (v := ?_) rfl (by kernel_rfl) (by kernel_rfl) (by kernel_rfl) (fun _ _ _ h => h) (Or.inl ⟨by rfl, ?_⟩) (by assumption) ?_
  rotate_left
  · (intro w hSw; (try dsimp only at hSw); go_simp; all_goals (with_reducible rfl))
  try simp only [Act.put, List.setIfInBounds_toArray, List.set_cons_zero, List.set_cons_succ, List.getElem_toArray, List.getElem_cons_zero, List.getElem_cons_succ]
  refine wpAnyH_take (i := 9) (v := ?_) rfl (by kernel_rfl) (by kernel_rfl) (by kernel_rfl) (fun _ _ _ h => h) (Or.inl ⟨by rfl, ?_⟩) (by assumption) ?_
  rotate_left
  · (intro w hSw; (try dsimp only at hSw); go_simp; all_goals (with_reducible rfl))
  try simp only [Act.put, List.setIfInBounds_toArray, List.set_cons_zero, List.set_cons_succ, List.getElem_toArray, List.getElem_cons_zero, List.getElem_cons_succ]
  refine wpAnyH_take (i := 10) (v := ?_) rfl (by kernel_rfl) (by kernel_rfl) (by kernel_rfl) (fun _ _ _ h => h) (Or.inl ⟨by rfl, ?_⟩) (by assumption) ?_
  rotate_left
  · (intro w hSw; (try dsimp only at hSw); go_simp; all_goals (with_reducible rfl))
  try simp only [Act.put, List.setIfInBounds_toArray, List.set_cons_zero, List.set_cons_succ, List.getElem_toArray, List.getElem_cons_zero, List.getElem_cons_succ]
  refine wpAnyH_take (i := 11) (v := ?_) rfl (by kernel_rfl) (by kernel_rfl) (by kernel_rfl) (fun _ _ _ h => h) (Or.inl ⟨by rfl, ?_⟩) (by assumption) ?_
  rotate_left
  · (intro w hSw; (try dsimp only at hSw); go_simp; all_goals (with_reducible rfl))
  try simp only [Act.put, List.setIfInBounds_toArray, List.set_cons_zero, List.set_cons_succ, List.getElem_toArray, List.getElem_cons_zero, List.getElem_cons_succ]
  refine wpAnyH_take (i := 13) (v := ?_) rfl (by kernel_rfl) (by kernel_rfl) (by kernel_rfl) (fun _ _ _ h => h) (Or.inl ⟨by rfl, ?_⟩) (by assumption) ?_
  rotate_left
  · (intro w hSw; (try dsimp only at hSw); go_simp; all_goals (with_reducible rfl))
  try simp only [Act.put, List.setIfInBounds_toArray, List.set_cons_zero, List.set_cons_succ, List.getElem_toArray, List.getElem_cons_zero, List.getElem_cons_succ]
  refine wpAnyH_take (i := 14) (v := ?_) rfl (by kernel_rfl) (by kernel_rfl) (by kernel_rfl) (fun _ _ _ h => h) (Or.inl ⟨by rfl, ?_⟩) (by assumption) ?_
  rotate_left
  · (intro w hSw; (try dsimp only at hSw); go_simp; all_goals (with_reducible rfl))
  try simp only [Act.put, List.setIfInBounds_toArray, List.set_cons_zero, List.set_cons_succ, List.getElem_toArray, List.getElem_cons_zero, List.getElem_cons_succ]
  refine wpAnyH_take (i := 15) (v := ?_) rfl (by kernel_rfl) (by kernel_rfl) (by kernel_rfl) (fun _ _ _ h => h) (Or.inl ⟨by rfl, ?_⟩) (by assumption) ?_
  rotate_left
  · (intro w hSw; (try dsimp only at hSw); go_simp; all_goals (with_reducible rfl))
  try simp only [Act.put, List.setIfInBounds_toArray, List.set_cons_zero, List.set_cons_succ, List.getElem_toArray, List.getElem_cons_zero, List.getElem_cons_succ]
  refine wpAnyH_take (i := 16) (v := ?_) rfl (by kernel_rfl) (by kernel_rfl) (by kernel_rfl) (fun _ _ _ h => h) (Or.inl ⟨by rfl, ?_⟩) (by assumption) ?_
  rotate_left
  · (intro w hSw; (try dsimp only at hSw); go_simp; all_goals (with_reducible rfl))
  try simp only [Act.put, List.setIfInBounds_toArray, List.set_cons_zero, List.set_cons_succ, List.getElem_toArray, List.getElem_cons_zero, List.getElem_cons_succ]
  refine wpAnyH_take (i := 17) (v := ?_) rfl (by kernel_rfl) (by kernel_rfl) (by kernel_rfl) (fun _ _ _ h => h) (Or.inl ⟨by rfl, ?_⟩) (by assumption) ?_
  rotate_left
  · (intro w hSw; (try dsimp only at hSw); go_simp; all_goals (with_reducible rfl))
  try simp only [Act.put, List.setIfInBounds_toArray, List.set_cons_zero, List.set_cons_succ, List.getElem_toArray, List.getElem_cons_zero, List.getElem_cons_succ]
  refine wpAnyH_take (i := 18) (v := ?_) rfl (by kernel_rfl) (by kernel_rfl) (by kernel_rfl) (fun _ _ _ h => h) (Or.inl ⟨by rfl, ?_⟩) (by assumption) ?_
  rotate_left
  · (intro w hSw; (try dsimp only at hSw); go_simp; all_goals (with_reducible rfl))
  try simp only [Act.put, List.setIfInBounds_toArray, List.set_cons_zero, List.set_cons_succ, List.getElem_toArray, List.getElem_cons_zero, List.getElem_cons_succ]
  refine wpAnyH_ready (rs := [12]) (by kernel_rfl) (by simp) ?_
  refine AllReadyH.cons rfl (fun K hK => ?_) AllReadyH.nil
  go_simp
  go_at_call 18
  refine (s_len (HS.out.read HB1.out)).mono ?_
  rintro e wb ⟨rfl, hb⟩
  have HBb := Aside0.mk hb
  have HB2 := Aside0.mk (HB1.out.trans (hb.mono HB1.out.size))
  have hS2 : wb.cell? ⟨kb, 0, none⟩ = some (.slice Al L.length cl) ∧ wb.cell? ⟨kb, 1, none⟩ = some (.int .i64 (C.length : Int)) ∧ wb.cell? ⟨kb, 2, none⟩ = some (.slice Am M.length cm) := kcells (blk_below HK.out HB2.out)
  clear hb
  go_wp2_with fail
  refine hK.out _ _ hS2 (fun hHeld => ?_)
  clear hK K
  try simp only [Act.put, List.setIfInBounds_toArray, List.set_cons_zero, List.set_cons_succ, List.getElem_toArray, List.getElem_cons_zero, List.getElem_cons_succ]
  refine wpAnyH_take (i := 19) (v := ?_) rfl (by kernel_rfl) (by kernel_rfl) (by kernel_rfl) (fun _ _ _ h => h) (Or.inl ⟨by rfl, ?_⟩) (by assumption) ?_
  rotate_left
  · (intro w hSw; (try dsimp only at hSw); go_simp; all_goals (with_reducible rfl))
  try simp only [Act.put, List.setIfInBounds_toArray, List.set_cons_zero, List.set_cons_succ, List.getElem_toArray, List.getElem_cons_zero, List.getElem_cons_succ]
  refine wpAnyH_take (i := 20) (v := ?_) rfl (by kernel_rfl) (by kernel_rfl) (by kernel_rfl) (fun _ _ _ h => h) (Or.inl ⟨by rfl, ?_⟩) (by assumption) ?_
  rotate_left
  · (intro w hSw; (try dsimp only at hSw); go_simp; all_goals (with_reducible rfl))
  try simp only [Act.put, List.setIfInBounds_toArray, List.set_cons_zero, List.set_cons_succ, List.getElem_toArray, List.getElem_cons_zero, List.getElem_cons_succ]
  refine wpAnyH_take (i := 21) (v := ?_) rfl (by kernel_rfl) (by kernel_rfl) (by kernel_rfl) (fun _ _ _ h => h) (Or.inl ⟨by rfl, ?_⟩) (by assumption) ?_
  rotate_left
  · (intro w hSw; (try dsimp only at hSw); go_simp; all_goals (with_reducible rfl))
  try simp only [Act.put, List.setIfInBounds_toArray, List.set_cons_zero, List.set_cons_succ, List.getElem_toArray, List.getElem_cons_zero, List.getElem_cons_succ]
  refine wpAnyH_take (i := 22) (v := ?_) rfl (by kernel_rfl) (by kernel_rfl) (by kernel_rfl) (fun _ _ _ h => h) (Or.inl ⟨by rfl, ?_⟩) (by assumption) ?_
  rotate_left
  · (intro w hSw; (try dsimp only at hSw); go_simp; all_goals (with_reducible rfl))
  try simp only [Act.put, List.setIfInBounds_toArray, List.set_cons_zero, List.set_cons_succ, List.getElem_toArray, List.getElem_cons_zero, List.getElem_cons_succ]
  refine wpAnyH_take (i := 24) (v := ?_) rfl (by kernel_rfl) (by kernel_rfl) (by kernel_rfl) (fun _ _ _ h => h) (Or.inl ⟨by rfl, ?_⟩) (by assumption) ?_
  rotate_left
  · (intro w hSw; (try dsimp only at hSw); go_simp; all_goals (with_reducible rfl))
  try simp only [Act.put, List.setIfInBounds_toArray, List.set_cons_zero, List.set_cons_succ, List.getElem_toArray, List.getElem_cons_zero, List.getElem_cons_succ]
  refine wpAnyH_take (i := 25) (v := ?_) rfl (by kernel_rfl) (by kernel_rfl) (by kernel_rfl) (fun _ _ _ h => h) (Or.inl ⟨by rfl, ?_⟩) (by assumption) ?_
  rotate_left
  · (intro w hSw; (try dsimp only at hSw); go_simp; all_goals (with_reducible rfl))
  try simp only [Act.put, List.setIfInBounds_toArray, List.set_cons_zero, List.set_cons_succ, List.getElem_toArray, List.getElem_cons_zero, List.getElem_cons_succ]
  refine wpAnyH_take (i := 26) (v := ?_) rfl (by kernel_rfl) (by kernel_rfl) (by kernel_rfl) (fun _ _ _ h => h) (Or.inl ⟨by rfl, ?_⟩) (by assumption) ?_
  rotate_left
  · (intro w hSw; (try dsimp only at hSw); go_simp; all_goals (with_reducible rfl))
  try simp only [Act.put, List.setIfInBounds_toArray, List.set_cons_zero, List.set_cons_succ, List.getElem_toArray, List.getElem_cons_zero, List.getElem_cons_succ]
  refine wpAnyH_take (i := 27) (v := ?_) rfl (by kernel_rfl) (by kernel_rfl) (by kernel_rfl) (fun _ _ _ h => h) (Or.inl ⟨by rfl, ?_⟩) (by assumption) ?_
  rotate_left
  · (intro w hSw; (try dsimp only at hSw); go_simp; all_goals (with_reducible rfl))
  try simp only [Act.put, List.setIfInBounds_toArray, List.set_cons_zero, List.set_cons_succ, List.getElem_toArray, List.getElem_cons_zero, List.getElem_cons_succ]
  refine wpAnyH_take (i := 28) (v := ?_) rfl (by kernel_rfl) (by kernel_rfl) (by kernel_rfl) (fun _ _ _ h => h) (Or.inl ⟨by rfl, ?_⟩) (by assumption) ?_
  rotate_left
  · (intro w hSw; (try dsimp only at hSw); go_simp; all_goals (with_reducible rfl))
  try simp only [Act.put, List.setIfInBounds_toArray, List.set_cons_zero, List.set_cons_succ, List.getElem_toArray, List.getElem_cons_zero, List.getElem_cons_succ]
  refine wpAnyH_ready (rs := [23]) (by kernel_rfl) (by simp) ?_
  refine AllReadyH.cons rfl (fun K hK => ?_) AllReadyH.nil
  go_simp
  go_at_call 24
  refine (s_level (HS.out.read HB2.out)).mono ?_
  rintro e wc ⟨rfl, hb⟩
  have HBc := Aside0.mk hb
  have HB3 := Aside0.mk (HB2.out.trans (hb.mono HB2.out.size))
  have hS3 : wc.cell? ⟨kb, 0, none⟩ = some (.slice Al L.length cl) ∧ wc.cell? ⟨kb, 1, none⟩ = some (.int .i64 (C.length : Int)) ∧ wc.cell? ⟨kb, 2, none⟩ = some (.slice Am M.length cm) := kcells (blk_below HK.out HB3.out)
  clear hb
  go_wp2_with fail
  refine hK.out _ _ hS3 (fun hHeld => ?_)
  clear hK K
  try simp only [Act.put, List.setIfInBounds_toArray, List.set_cons_zero, List.set_cons_succ, List.getElem_toArray, List.getElem_cons_zero, List.getElem_cons_succ]
  refine wpAnyH_take (i := 29) (v := ?_) rfl (by kernel_rfl) (by kernel_rfl) (by kernel_rfl) (fun _ _ _ h => h) (Or.inl ⟨by rfl, ?_⟩) (by assumption) ?_
  rotate_left
  · (intro w hSw; (try dsimp only at hSw); go_simp; all_goals (with_reducible rfl))
  try simp only [Act.put, List.setIfInBounds_toArray, List.set_cons_zero, List.set_cons_succ, List.getElem_toArray, List.getElem_cons_zero, List.getElem_cons_succ]
  refine wpAnyH_take (i := 30) (v := ?_) rfl (by kernel_rfl) (by kernel_rfl) (by kernel_rfl) (fun _ _ _ h => h) (Or.inl ⟨by rfl, ?_⟩) (by assumption) ?_
  rotate_left
  · (intro w hSw; (try dsimp only at hSw); go_simp; all_goals (with_reducible rfl))
  try simp only [Act.put, List.setIfInBounds_toArray, List.set_cons_zero, List.set_cons_succ, List.getElem_toArray, List.getElem_cons_zero, List.getElem_cons_succ]
  refine wpAnyH_take (i := 31) (v := ?_) rfl (by kernel_rfl) (by kernel_rfl) (by kernel_rfl) (fun _ _ _ h => h) (Or.inl ⟨by rfl, ?_⟩) (by assumption) ?_
  rotate_left
  · (intro w hSw; (try dsimp only at hSw); go_simp; all_goals (with_reducible rfl))
  try simp only [Act.put, List.setIfInBounds_toArray, List.set_cons_zero, List.set_cons_succ, List.getElem_toArray, List.getElem_cons_zero, List.getElem_cons_succ]
  refine wpAnyH_take (i := 32) (v := ?_) rfl (by kernel_rfl) (by kernel_rfl) (by kernel_rfl) (fun _ _ _ h => h) (Or.inl ⟨by rfl, ?_⟩) (by assumption) ?_
  rotate_left
  · (intro w hSw; (try dsimp only at hSw); go_simp; all_goals (with_reducible rfl))
  try simp only [Act.put, List.setIfInBounds_toArray, List.set_cons_zero, List.set_cons_succ, List.getElem_toArray, List.getElem_cons_zero, List.getElem_cons_succ]
  refine wpAnyH_take (i := 34) (v := ?_) rfl (by kernel_rfl) (by kernel_rfl) (by kernel_rfl) (fun _ _ _ h => h) (Or.inl ⟨by rfl, ?_⟩) (by assumption) ?_
  rotate_left
  · (intro w hSw; (try dsimp only at hSw); go_simp; all_goals (with_reducible rfl))
  try simp only [Act.put, List.setIfInBounds_toArray, List.set_cons_zero, List.set_cons_succ, List.getElem_toArray, List.getElem_cons_zero, List.getElem_cons_succ]
  refine wpAnyH_take (i := 35) (v := ?_) rfl (by kernel_rfl) (by kernel_rfl) (by kernel_rfl) (fun _ _ _ h => h) (Or.inl ⟨by rfl, ?_⟩) (by assumption) ?_
  rotate_left
  · (intro w hSw; (try dsimp only at hSw); go_simp; all_goals (with_reducible rfl))
  try simp only [Act.put, List.setIfInBounds_toArray, List.set_cons_zero, List.set_cons_succ, List.getElem_toArray, List.getElem_cons_zero, List.getElem_cons_succ]
  refine wpAnyH_take (i := 36) (v := ?_) rfl (by kernel_rfl) (by kernel_rfl) (by kernel_rfl) (fun _ _ _ h => h) (Or.inl ⟨by rfl, ?_⟩) (by assumption) ?_
  rotate_left
  · (intro w hSw; (try dsimp only at hSw); go_simp; all_goals (with_reducible rfl))
  try simp only [Act.put, List.setIfInBounds_toArray, List.set_cons_zero, List.set_cons_succ, List.getElem_toArray, List.getElem_cons_zero, List.getElem_cons_succ]
  refine wpAnyH_take (i := 37) (v := ?_) rfl (by kernel_rfl) (by kernel_rfl) (by kernel_rfl) (fun _ _ _ h => h) (Or.inl ⟨by rfl, ?_⟩) (by assumption) ?_
  rotate_left
  · (intro w hSw; (try dsimp only at hSw); go_simp; all_goals (with_reducible rfl))
  try simp only [Act.put, List.setIfInBounds_toArray, List.set_cons_zero, List.set_cons_succ, List.getElem_toArray, List.getElem_cons_zero, List.getElem_cons_succ]
  refine wpAnyH_take (i := 38) (v := ?_) rfl (by kernel_rfl) (by kernel_rfl) (by kernel_rfl) (fun _ _ _ h => h) (Or.inl ⟨by rfl, ?_⟩) (by assumption) ?_
  rotate_left
  · (intro w hSw; (try dsimp only at hSw); go_simp; all_goals (with_reducible rfl))
  try simp only [Act.put, List.setIfInBounds_toArray, List.set_cons_zero, List.set_cons_succ, List.getElem_toArray, List.getElem_cons_zero, List.getElem_cons_succ]
  refine wpAnyH_ready (rs := [33]) (by kernel_rfl) (by simp) ?_
  refine AllReadyH.cons rfl (fun K hK => ?_) AllReadyH.nil
  go_simp
  go_at_call 13
  refine (s_changes (HS.out.read HB3.out)).mono ?_
  rintro e wd ⟨rfl, hb⟩
  have HBd := Aside0.mk hb
  have HB4 := Aside0.mk (HB3.out.trans (hb.mono HB3.out.size))
  have hS4 : wd.cell? ⟨kb, 0, none⟩ = some (.slice Al L.length cl) ∧ wd.cell? ⟨kb, 1, none⟩ = some (.int .i64 (C.length : Int)) ∧ wd.cell? ⟨kb, 2, none⟩ = some (.slice Am M.length cm) := kcells (blk_below HK.out HB4.out)
  clear hb
  go_wp2_with fail
  refine hK.out _ _ hS4 (fun hHeld => ?_)
  clear hK K
  try simp only [Act.put, List.setIfInBounds_toArray, List.set_cons_zero, List.set_cons_succ, List.getElem_toArray, List.getElem_cons_zero, List.getElem_cons_succ]
  refine wpAnyH_take (i := 39) (v := ?_) rfl (by kernel_rfl) (by kernel_rfl) (by kernel_rfl) (fun _ _ _ h => h) (Or.inl ⟨by rfl, ?_⟩) (by assumption) ?_
  rotate_left
  · (intro w hSw; (try dsimp only at hSw); go_simp; all_goals (with_reducible rfl))
  try simp only [Act.put, List.setIfInBounds_toArray, List.set_cons_zero, List.set_cons_succ, List.getElem_toArray, List.getElem_cons_zero, List.getElem_cons_succ]
  refine wpAnyH_take (i := 40) (v := ?_) rfl (by kernel_rfl) (by kernel_rfl) (by kernel_rfl) (fun _ _ _ h => h) (Or.inl ⟨by rfl, ?_⟩) (by assumption) ?_
  rotate_left
  · (intro w hSw; (try dsimp only at hSw); go_simp; all_goals (with_reducible rfl))
  try simp only [Act.put, List.setIfInBounds_toArray, List.set_cons_zero, List.set_cons_succ, List.getElem_toArray, List.getElem_cons_zero, List.getElem_cons_succ]
  refine wpAnyH_done (by kernel_rfl) ?_ _
  have HR4 := Aside0.mk (show 0 < L.length → A5 = some ad5 ∧ Rws w wd b5 arr5 L from fun h => ⟨(HR.out h).1, ((((((HR.out h).2.below (below_drew (Below.refl _ _))).below HBa.out).below HBb.out).below HBc.out)).below HBd.out⟩)
  clear hS0 hS1 hS2 hS3 hS4 HF
  go_wp2_with fail
  go_loopg [6] L.length (fun j v6 wr => ∃ i : Nat, v6 = .int .i64 (i : Int) ∧ Aside0 (i + j = L.length) ∧ Aside0 (Below w.heap.size w wr) ∧ Aside0 (0 < L.length → A5 = some ad5 ∧ Rws w wr b5 arr5 L))
  case atStart => exact ⟨0, rfl, ⟨Nat.zero_add _⟩, HB4, HR4⟩
  case round =>
    obtain ⟨i, rfl, HI, HB, HR⟩ := hrel
    by_cases hlt : i < L.length
    · have q1 := eq_true hlt
      have q2 := eq_true (show (i : Int) < (L.length : Int) by omega)
      have q3 : decide ((i : Int) < (L.length : Int)) = true := decide_eq_true (by omega)
      obtain ⟨jo, hj⟩ : ∃ j, gk = j + 1 := ⟨gk - 1, by have := HI.out; omega⟩
      have HJO := Aside0.mk hj
      have HLT := Aside0.mk hlt
      obtain ⟨eA5, hRw⟩ := HR.out (by omega)
      subst eA5
      have HRW := Aside0.mk hRw
      have hwi : wrap64 ((i : Int) + 1) = (i : Int) + 1 := wrap_id _ (by have := HL6.out; omega)
      clear hj hlt hRw HR
      go_wp2_with fail
      refine (get_calls (i : Int) (rd_L3 L (i : Int)) (if_pos ⟨by omega, by have := HLT.out; omega⟩).symm (HS.out.read HB.out).st (fun h0 h1 => by have := HSM.out _ (rdL3_mem L (i : Int) h0 h1); omega)).mono ?_
      rintro e w2 ⟨v, rfl, hN, hb⟩
      obtain ⟨x, hx⟩ : ∃ x, x = rd_L3 L (i : Int) := ⟨_, rfl⟩
      have HX := Aside0.mk hx
      have HXL := Aside0.mk (show x.length ≤ 4096 by rw [hx]; exact HSM.out _ (rdL3_mem L (i : Int) (by omega) (by have := HLT.out; omega)))
      rw [← hx] at hN
      obtain ⟨A7, c7, rfl, hle7, hC7⟩ := Kd.N_reads hN
      obtain ⟨b7, hb7⟩ : ∃ b7, 0 < x.length → ∃ arr, A7 = some ⟨b7, 0, none⟩ ∧ w2.heap[b7]? = some (.cells arr 62 (0, 0)) ∧ 2 * x.length ≤ arr.size ∧ wr.heap.size ≤ b7 := by
        by_cases h0 : 0 < x.length
        · obtain ⟨b, arr, e, h1, h2, h3, _⟩ := N_block hN h0
          exact ⟨b, fun _ => ⟨arr, e, h1, h2, h3⟩⟩
        · exact ⟨0, fun h => absurd h h0⟩
      obtain ⟨ad7, had7⟩ : ∃ ad7 : Addr, ad7 = ⟨b7, 0, none⟩ := ⟨_, rfl⟩
      have HAD7 := Aside0.mk had7
      have HX7 := Aside0.mk (show 0 < x.length → A7 = some ad7 ∧ w.heap.size ≤ b7 from fun h => by obtain ⟨arr, e, _, _, h3⟩ := hb7 h; exact ⟨by rw [had7]; exact e, Nat.le_trans HB.out.size h3⟩)
      have HQ7 := Aside0.mk (show 0 < x.length → ∃ arr, w2.heap[b7]? = some (.cells arr 62 (0, 0)) ∧ 2 * x.length ≤ arr.size from fun h => by obtain ⟨arr, _, h1, h2, _⟩ := hb7 h; exact ⟨arr, h1, h2⟩)
      have HD7 := Aside0.mk (And.intro hle7 hC7)
      have HB2 := Aside0.mk (HB.out.trans (hb.mono HB.out.size))
      have HRW2 := Aside0.mk (HRW.out.below hb)
      obtain ⟨hk0, hk1, hk2⟩ := kcells (blk_below HK.out HB2.out)
      obtain ⟨al, B0, b0, e, hy0, hyl0, hyc0⟩ := at_L3 (Kd.C_below HC.out HB2.out) (i : Int) (by omega) (by have := HLT.out; omega)
      subst e
      rw [Int.toNat_natCast, ← hx] at hy0
      rw [← hx] at hyl0 hyc0
      have HY0 := Aside0.mk (And.intro hyl0 hyc0)
      clear hN hb hx hle7 hC7 hb7 had7 hyl0 hyc0 HB HRW hk1 hk2
      go_wp2_with fail
      refine (s_same A7 c7 x B0 b0 x w2 HD7.out.2 HD7.out.1 HY0.out.2 HY0.out.1 (by have := HXL.out; omega)).mono ?_
      rintro e w3 ⟨rfl, hb⟩
      rw [decide_eq_true (rfl : x = x)]
      have HB3 := Aside0.mk (HB2.out.trans (hb.mono HB2.out.size))
      have HRW3 := Aside0.mk (HRW2.out.below hb)
      have HQ3 := Aside0.mk (show 0 < x.length → ∃ arr, w3.heap[b7]? = some (.cells arr 62 (0, 0)) ∧ 2 * x.length ≤ arr.size from fun h => by obtain ⟨arr, h1, h2⟩ := HQ7.out h; exact ⟨arr, blk_below h1 hb, h2⟩)
      clear hb HB2 HRW2 HQ7 hk0 hy0 HD7 HY0
      go_wp2_with fail
      go_loopg [8] x.length (fun j v8 wr => ∃ t : Nat, v8 = .int .i64 (t : Int) ∧ Aside0 (t + j = x.length) ∧ Aside0 (Below w.heap.size w wr) ∧ Aside0 (Rws w wr b5 arr5 L) ∧ Aside0 (0 < x.length → ∃ arr, wr.heap[b7]? = some (.cells arr 62 (0, 0)) ∧ 2 * x.length ≤ arr.size))
      case atStart => exact ⟨0, rfl, ⟨Nat.zero_add _⟩, HB3, HRW3, HQ3⟩
      case round =>
        obtain ⟨t, rfl, HT, HB, HRW, HQ⟩ := hrel
        by_cases hlt : t < x.length
        · have q11 := eq_true hlt
          have q12 := eq_true (show (t : Int) < (x.length : Int) by omega)
          have q13 : decide ((t : Int) < (x.length : Int)) = true := decide_eq_true (by omega)
          obtain ⟨jt, hj⟩ : ∃ j, gk = j + 1 := ⟨gk - 1, by have := HT.out; omega⟩
          have HJT := Aside0.mk hj
          obtain ⟨eA7, hge7⟩ := HX7.out (by omega)
          subst eA7
          obtain ⟨arr, ha1, ha2⟩ := HQ.out (by omega)
          obtain ⟨⟨v0, hcell⟩, hfroz, hadr⟩ := blk_at HAD7.out ha1 ha2 hlt
          have HA := Aside0.mk (And.intro ha1 ha2)
          have HG7 := Aside0.mk hge7
          have HADR := Aside0.mk hadr
          have hwt : wrap64 ((t : Int) + 1) = (t : Int) + 1 := wrap_id _ (by have := HXL.out; omega)
          clear hj hlt ha1 ha2 hge7 hadr
          go_wp2
          go_roundg jt
          case measure => have := HJT.out; omega
          case rel =>
            have e0 := HT.out
            have e1 := HJT.out
            rw [HADR.out]
            refine ⟨t + 1, by first | (simp; done) | (rw [hwt]; simp; done), ⟨by omega⟩, ⟨HB.out.setCell HG7.out _⟩, ⟨HRW.out.set HA.out.1 _⟩, ⟨fun _ => ?_⟩⟩
            obtain ⟨arr2, h1, h2⟩ := blk62_set HA.out.1 HA.out.1 (o := t * 2) (.int .i64 999)
            exact ⟨arr2, h1, by have := HA.out.2; omega⟩
        · have q11 := eq_false hlt
          have q12 := eq_false (show ¬ (t : Int) < (x.length : Int) by omega)
          have q13 : decide ((t : Int) < (x.length : Int)) = false := decide_eq_false (by omega)
          clear hlt HQ
          go_wp2_with fail
          go_loopg [9] x.length (fun j v9 wr => ∃ u : Nat, v9 = .int .i64 (u : Int) ∧ Aside0 (u + j = x.length) ∧ Aside0 (Below w.heap.size w wr) ∧ Aside0 (Rws w wr b5 arr5 L))
          case atStart => exact ⟨0, rfl, ⟨Nat.zero_add _⟩, HB, HRW⟩
          case round =>
            obtain ⟨u, rfl, HU, HB, HRW⟩ := hrel
            obtain ⟨A', c', hh1, hh2⟩ := HRW.out.2.2 i HLT.out
            have hcell5 : wr.cell? (ad5.add i) = some (.slice A' x.length c') := by
              rw [HAD5.out, add_plain, HX.out]; exact (blk_cell HRW.out.1 i).trans hh1
            rw [← HX.out] at hh2
            have HH2 := Aside0.mk hh2
            have q4 := eq_true (show (i : Int) < (L.length : Int) by have := HLT.out; omega)
            clear hh1 hh2
            by_cases hlt : u < x.length
            · have q21 := eq_true hlt
              have q22 := eq_true (show (u : Int) < (x.length : Int) by omega)
              have q23 : decide ((u : Int) < (x.length : Int)) = true := decide_eq_true (by omega)
              obtain ⟨ju, hj⟩ : ∃ j, gk = j + 1 := ⟨gk - 1, by have := HU.out; omega⟩
              have HJU := Aside0.mk hj
              obtain ⟨b, arr, eA, hbw, ha1, ha2⟩ := HH2.out (by omega)
              obtain ⟨adr, hadr0⟩ : ∃ adr : Addr, adr = ⟨b, 0, none⟩ := ⟨_, rfl⟩
              rw [eA, ← hadr0] at hcell5
              obtain ⟨⟨v0, hcell⟩, hfroz, hadr⟩ := blk_at hadr0 ha1 ha2 hlt
              have HA := Aside0.mk (And.intro ha1 hbw)
              have HADR := Aside0.mk hadr
              have hwu : wrap64 ((u : Int) + 1) = (u : Int) + 1 := wrap_id _ (by have := HXL.out; omega)
              clear hj hlt ha1 ha2 hadr hadr0 hbw eA
              go_wp2
              go_roundg ju
              case measure => have := HJU.out; omega
              case rel =>
                have e0 := HU.out
                have e1 := HJU.out
                rw [HADR.out]
                exact ⟨u + 1, by first | (simp; done) | (rw [hwu]; simp; done), ⟨by omega⟩, ⟨HB.out.setCell HA.out.2 _⟩, ⟨HRW.out.set HA.out.1 _⟩⟩
            · have q21 := eq_false hlt
              have q22 := eq_false (show ¬ (u : Int) < (x.length : Int) by omega)
              have q23 : decide ((u : Int) < (x.length : Int)) = false := decide_eq_false (by omega)
              clear hlt
              go_wp2
              go_roundg jo
              case measure => have := HJO.out; omega
              case rel =>
                have e0 := HI.out
                have e1 := HJO.out
                exact ⟨i + 1, by first | (simp; done) | (rw [hwi]; simp; done), ⟨by omega⟩, HB, ⟨fun _ => ⟨by first | trivial | rfl, HRW.out⟩⟩⟩
    · have q1 := eq_false hlt
      have q2 := eq_false (show ¬ (i : Int) < (L.length : Int) by omega)
      have q3 : decide ((i : Int) < (L.length : Int)) = false := decide_eq_false (by omega)
      clear hlt HR
      go_wp2_with fail
      have HBp := Aside0.mk (HB.out.trans (below_drew (Below.refl wr.heap.size wr) |>.mono HB.out.size))
      refine wp_region_held_drew (S := (fun _ => True)) (by kernel_rfl) trivial (fun hHeld => ?_)
      refine wpAnyH_take (i := 0) (v := ?_) rfl (by kernel_rfl) (by kernel_rfl) (by kernel_rfl) (fun _ _ _ h => h) (Or.inl ⟨by rfl, ?_⟩) (by assumption) ?_
      rotate_left
      · (intro w hSw; (try dsimp only at hSw); go_simp; all_goals (with_reducible rfl))
      try simp only [Act.put, List.setIfInBounds_toArray, List.set_cons_zero, List.set_cons_succ, List.getElem_toArray, List.getElem_cons_zero, List.getElem_cons_succ]
      refine wpAnyH_take (i := 1) (v := ?_) rfl (by kernel_rfl) (by kernel_rfl) (by kernel_rfl) (fun _ _ _ h => h) (Or.inl ⟨by rfl, ?_⟩) (by assumption) ?_
      rotate_left
      · (intro w hSw; (try dsimp only at hSw); go_simp; all_goals (with_reducible rfl))
      try simp only [Act.put, List.setIfInBounds_toArray, List.set_cons_zero, List.set_cons_succ, List.getElem_toArray, List.getElem_cons_zero, List.getElem_cons_succ]
      refine wpAnyH_take (i := 2) (v := ?_) rfl (by kernel_rfl) (by kernel_rfl) (by kernel_rfl) (fun _ _ _ h => h) (Or.inl ⟨by rfl, ?_⟩) (by assumption) ?_
      rotate_left
      · (intro w hSw; (try dsimp only at hSw); go_simp; all_goals (with_reducible rfl))
      try simp only [Act.put, List.setIfInBounds_toArray, List.set_cons_zero, List.set_cons_succ, List.getElem_toArray, List.getElem_cons_zero, List.getElem_cons_succ]
      refine wpAnyH_ready (rs := [3]) (by kernel_rfl) (by simp) ?_
      refine AllReadyH.cons rfl (fun K hK => ?_) AllReadyH.nil
      go_simp
      go_at_call 12
      refine (s_get (-1) (HS.out.read HBp.out)).mono ?_
      rintro e wp ⟨Ap, cp, rfl, _, hb⟩
      rw [show getL L (-1) = [] from if_neg (by omega), List.length_nil]
      have HBq := Aside0.mk (HBp.out.trans (hb.mono HBp.out.size))
      clear hb
      go_wp2_with fail
      refine hK.out _ _ trivial (fun hHeld => ?_)
      clear hK K
      try simp only [Act.put, List.setIfInBounds_toArray, List.set_cons_zero, List.set_cons_succ, List.getElem_toArray, List.getElem_cons_zero, List.getElem_cons_succ]
      refine wpAnyH_take (i := 4) (v := ?_) rfl (by kernel_rfl) (by kernel_rfl) (by kernel_rfl) (fun _ _ _ h => h) (Or.inl ⟨by rfl, ?_⟩) (by assumption) ?_
      rotate_left
      · (intro w hSw; (try dsimp only at hSw); go_simp; all_goals (with_reducible rfl))
      try simp only [Act.put, List.setIfInBounds_toArray, List.set_cons_zero, List.set_cons_succ, List.getElem_toArray, List.getElem_cons_zero, List.getElem_cons_succ]
      refine wpAnyH_take (i := 5) (v := ?_) rfl (by kernel_rfl) (by kernel_rfl) (by kernel_rfl) (fun _ _ _ h => h) (Or.inl ⟨by rfl, ?_⟩) (by assumption) ?_
      rotate_left
      · (intro w hSw; (try dsimp only at hSw); go_simp; all_goals (with_reducible rfl))
      try simp only [Act.put, List.setIfInBounds_toArray, List.set_cons_zero, List.set_cons_succ, List.getElem_toArray, List.getElem_cons_zero, List.getElem_cons_succ]
      refine wpAnyH_take (i := 6) (v := ?_) rfl (by kernel_rfl) (by kernel_rfl) (by kernel_rfl) (fun _ _ _ h => h) (Or.inl ⟨by rfl, ?_⟩) (by assumption) ?_
      rotate_left
      · (intro w hSw; (try dsimp only at hSw); go_simp; all_goals (with_reducible rfl))
      try simp only [Act.put, List.setIfInBounds_toArray, List.set_cons_zero, List.set_cons_succ, List.getElem_toArray, List.getElem_cons_zero, List.getElem_cons_succ]
      refine wpAnyH_take (i := 7) (v := ?_) rfl (by kernel_rfl) (by kernel_rfl) (by kernel_rfl) (fun _ _ _ h => h) (Or.inl ⟨by rfl, ?_⟩) (by assumption) ?_
      rotate_left
      · (intro w hSw; (try dsimp only at hSw); go_simp; all_goals (with_reducible rfl))
      try simp only [Act.put, List.setIfInBounds_toArray, List.set_cons_zero, List.set_cons_succ, List.getElem_toArray, List.getElem_cons_zero, List.getElem_cons_succ]
      refine wpAnyH_take (i := 8) (v := ?_) rfl (by kernel_rfl) (by kernel_rfl) (by kernel_rfl) (fun _ _ _ h => h) (Or.inl ⟨by rfl, ?_⟩) (by assumption) ?_
      rotate_left
      · (intro w hSw; (try dsimp only at hSw); go_simp; all_goals (with_reducible rfl))
      try simp only [Act.put, List.setIfInBounds_toArray, List.set_cons_zero, List.set_cons_succ, List.getElem_toArray, List.getElem_cons_zero, List.getElem_cons_succ]
      refine wpAnyH_take (i := 9) (v := ?_) rfl (by kernel_rfl) (by kernel_rfl) (by kernel_rfl) (fun _ _ _ h => h) (Or.inl ⟨by rfl, ?_⟩) (by assumption) ?_
      rotate_left
      · (intro w hSw; (try dsimp only at hSw); go_simp; all_goals (with_reducible rfl))
      try simp only [Act.put, List.setIfInBounds_toArray, List.set_cons_zero, List.set_cons_succ, List.getElem_toArray, List.getElem_cons_zero, List.getElem_cons_succ]
      refine wpAnyH_take (i := 10) (v := ?_) rfl (by kernel_rfl) (by kernel_rfl) (by kernel_rfl) (fun _ _ _ h => h) (Or.inl ⟨by rfl, ?_⟩) (by assumption) ?_
      rotate_left
      · (intro w hSw; (try dsimp only at hSw); go_simp; all_goals (with_reducible rfl))
      try simp only [Act.put, List.setIfInBounds_toArray, List.set_cons_zero, List.set_cons_succ, List.getElem_toArray, List.getElem_cons_zero, List.getElem_cons_succ]
      refine wpAnyH_take (i := 11) (v := ?_) rfl (by kernel_rfl) (by kernel_rfl) (by kernel_rfl) (fun _ _ _ h => h) (Or.inl ⟨by rfl, ?_⟩) (by assumption) ?_
      rotate_left
      · (intro w hSw; (try dsimp only at hSw); go_simp; all_goals (with_reducible rfl))
      try simp only [Act.put, List.setIfInBounds_toArray, List.set_cons_zero, List.set_cons_succ, List.getElem_toArray, List.getElem_cons_zero, List.getElem_cons_succ]
      refine wpAnyH_take (i := 12) (v := ?_) rfl (by kernel_rfl) (by kernel_rfl) (by kernel_rfl) (fun _ _ _ h => h) (Or.inl ⟨by rfl, ?_⟩) (by assumption) ?_
      rotate_left
      · (intro w hSw; (try dsimp only at hSw); go_simp; all_goals (with_reducible rfl))
      try simp only [Act.put, List.setIfInBounds_toArray, List.set_cons_zero, List.set_cons_succ, List.getElem_toArray, List.getElem_cons_zero, List.getElem_cons_succ]
      refine wpAnyH_ready (rs := [13]) (by kernel_rfl) (by simp) ?_
      refine AllReadyH.cons rfl (fun K hK => ?_) AllReadyH.nil
      go_simp
      go_at_call 18
      refine (s_len (HS.out.read HBq.out)).mono ?_
      rintro e wq ⟨rfl, hb⟩
      have HBr := Aside0.mk (HBq.out.trans (hb.mono HBq.out.size))
      clear hb
      go_wp2_with fail
      refine hK.out _ _ trivial (fun hHeld => ?_)
      clear hK K
      try simp only [Act.put, List.setIfInBounds_toArray, List.set_cons_zero, List.set_cons_succ, List.getElem_toArray, List.getElem_cons_zero, List.getElem_cons_succ]
      refine wpAnyH_ready (rs := [14]) (by kernel_rfl) (by simp) ?_
      refine AllReadyH.cons rfl (fun K hK => ?_) AllReadyH.nil
      go_simp
      go_at_call 12
      refine (s_get (L.length : Int) (HS.out.read HBr.out)).mono ?_
      rintro e wz ⟨Az, cz, rfl, _, hb⟩
      rw [show getL L (L.length : Int) = [] from if_neg (by omega), List.length_nil]
      have HBs := Aside0.mk (HBr.out.trans (hb.mono HBr.out.size))
      clear hb
      go_wp2_with fail
      refine hK.out _ _ trivial (fun hHeld => ?_)
      clear hK K
      try simp only [Act.put, List.setIfInBounds_toArray, List.set_cons_zero, List.set_cons_succ, List.getElem_toArray, List.getElem_cons_zero, List.getElem_cons_succ]
      refine wpAnyH_take (i := 15) (v := ?_) rfl (by kernel_rfl) (by kernel_rfl) (by kernel_rfl) (fun _ _ _ h => h) (Or.inl ⟨by rfl, ?_⟩) (by assumption) ?_
      rotate_left
      · (intro w hSw; (try dsimp only at hSw); go_simp; all_goals (with_reducible rfl))
      try simp only [Act.put, List.setIfInBounds_toArray, List.set_cons_zero, List.set_cons_succ, List.getElem_toArray, List.getElem_cons_zero, List.getElem_cons_succ]
      refine wpAnyH_take (i := 16) (v := ?_) rfl (by kernel_rfl) (by kernel_rfl) (by kernel_rfl) (fun _ _ _ h => h) (Or.inl ⟨by rfl, ?_⟩) (by assumption) ?_
      rotate_left
      · (intro w hSw; (try dsimp only at hSw); go_simp; all_goals (with_reducible rfl))
      try simp only [Act.put, List.setIfInBounds_toArray, List.set_cons_zero, List.set_cons_succ, List.getElem_toArray, List.getElem_cons_zero, List.getElem_cons_succ]
      refine wpAnyH_take (i := 17) (v := ?_) rfl (by kernel_rfl) (by kernel_rfl) (by kernel_rfl) (fun _ _ _ h => h) (Or.inl ⟨by rfl, ?_⟩) (by assumption) ?_
      rotate_left
      · (intro w hSw; (try dsimp only at hSw); go_simp; all_goals (with_reducible rfl))
      try simp only [Act.put, List.setIfInBounds_toArray, List.set_cons_zero, List.set_cons_succ, List.getElem_toArray, List.getElem_cons_zero, List.getElem_cons_succ]
      refine wpAnyH_take (i := 18) (v := ?_) rfl (by kernel_rfl) (by kernel_rfl) (by kernel_rfl) (fun _ _ _ h => h) (Or.inl ⟨by rfl, ?_⟩) (by assumption) ?_
      rotate_left
      · (intro w hSw; (try dsimp only at hSw); go_simp; all_goals (with_reducible rfl))
      try simp only [Act.put, List.setIfInBounds_toArray, List.set_cons_zero, List.set_cons_succ, List.getElem_toArray, List.getElem_cons_zero, List.getElem_cons_succ]
      refine wpAnyH_done (by kernel_rfl) ?_ _
      go_wp2
      go_ret
      exact ⟨rfl, HBs.out⟩
end Go.Proofs.Ytcjachhdoogbaaa.PT
