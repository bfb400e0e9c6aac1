/- Copy where no change was made: a store of its own. No conditions but the lengths' bounds. -/
import Derived.Test.YtcjachhdoogbaaaTMarks
set_option linter.unusedVariables false
set_option linter.unusedSimpArgs false
namespace Go.Proofs.Ytcjachhdoogbaaa.PT
open Go.RowKit Go.Proofs.YtcjachhdoogbaaaW.PrintWords Go.Proofs.YtcjachhdoogbaaaW.PrintLast Go.Proofs.YtcjachhdoogbaaaW.PrintMore
theorem N_none {α : Type} {d : Kd α} {e base : Nat} {w : World} {ok ok' : Nat → Prop} {v : Value} (h : Kd.N d e w base ok v []) (hk : ∀ k, v.ownBlock = some k → ok' k) : Kd.N d e w base ok' v [] := by
  obtain ⟨_, rows, hl, hR, _⟩ := h
  exact ⟨hk, rows, hl, hR, fun j x c hx => by simp at hx⟩
theorem R_int {e base : Nat} {w : World} {ok : Nat → Prop} {v : Value} {xs : List Int} (h : Kd.N (Kd.int .i64) e w base ok v xs) : (Kd.int .i64).R e w base ok v xs := by
  obtain ⟨h0, rows, hl, ⟨_, inner, ho, hr⟩, hf⟩ := h
  refine ⟨h0, inner, by rw [← hl]; exact ho, by rw [← hl]; exact hr.1, fun j x hx => ?_⟩
  have hj : j < rows.length := by rw [hl]; exact (List.getElem?_eq_some_iff.1 hx).1
  have hc := List.getElem?_eq_getElem hj
  have h1 := hr.2 j _ hc
  have h2 := Kd.FK_now (hf j x _ hx hc)
  have h3 : rows[j] = [Value.int .i64 x] := h2
  have h4 : (inner.drop (j * 1)).take 1 = rows[j] := h1.1
  show (inner.drop (j * 1)).take 1 = [Value.int .i64 x]
  rw [h4, h3]
section
variable {T : Nat → Prop} {w0 w w1 w2 : World} {base g : Nat} {lv cv mv : Value} {L : List (List S62)} {C : List S67} {M : List Int}
set_option maxRecDepth 100000
set_option maxHeartbeats 4000000
theorem copy0_calls (hC0 : C = []) (h : St T w base g L C M) (hl : ∀ x ∈ L, x.length ≤ 1000000) (hbig : L.length ≤ 1000000 ∧ C.length ≤ 1000000 ∧ M.length ≤ 1000000) :
    Calls Try.prog 31 #[.pointer (some ⟨g, 0, none⟩)] w fun e w' => Below w.heap.size w w' ∧ ∃ g', e = .returned (.pointer (some ⟨g', 0, none⟩)) ∧ St (fun k => w.heap.size ≤ k) w' w.heap.size g' L [] M := by
  have HC0 := Aside0.mk hC0
  clear hC0
  obtain ⟨lv, cv, mv, h⟩ := h
  obtain ⟨⟨Al, cl, rfl, _⟩, ⟨Ac, cc, rfl, _⟩, Am, cm, rfl, _⟩ := h.forms
  obtain ⟨h0, h1, h2⟩ := h.cells
  have HH := Aside0.mk h
  have HL := Aside0.mk hl
  have HG := Aside0.mk hbig
  have B0 := Aside0.mk (below_drew (Below.refl w.heap.size w))
  have H1 := Aside0.mk h1
  have H2 := Aside0.mk h2
  clear h hl hbig h0
  go_enter Try.func31, Try.ntmps31
  go_wp2_with fail
  go_region_held3 (fun W => Below w.heap.size w W ∧ W.cell? ⟨g, 1, none⟩ = some (.slice Ac C.length cc) ∧ W.cell? ⟨g, 2, none⟩ = some (.slice Am M.length cm))
    (first | exact ⟨below_drew (Below.refl _ _), h1, h2⟩ | exact hSA | exact hSC | exact hSM | exact sK hSM (below_alloc (Below.refl _ _) _))
    (first
    | (go_at_call 22; refine (all_calls (T := T) (base := base) (g := g) (C := C) (M := M) ⟨_, _, _, HH.out.below (sL (by assumption))⟩ HL.out HG.out.1).mono ?_; rintro e wA ⟨vA, rfl, hNA, hbA⟩; have hSA := sK (cv := .slice Ac C.length cc) (mv := .slice Am M.length cm) (g := g) (w := w) (by assumption) hbA; obtain ⟨AA, cA, rfl⟩ := Kd.N_slice hNA)
    | (go_at_call 43; refine (clone43 Ac cc C _ _ (Kd.N_F (Kd.N_below HH.out.c (sL (by assumption)))) (by have := HG.out.2.1; omega)).mono ?_; rintro e wC ⟨vC, rfl, hNC, hbC⟩; have hSC := sK (cv := .slice Ac C.length cc) (mv := .slice Am M.length cm) (g := g) (w := w) (by assumption) hbC; obtain ⟨AC, cC, rfl⟩ := Kd.N_slice hNC)
    | (go_at_call 44; refine (clone44 Am cm M _ _ (Kd.C_F (Kd.heap_int _) (Kd.C_below (Kd.R_reads' HH.out.m).2.2 (sL (by assumption)))) (by have := HG.out.2.2; omega)).mono ?_; rintro e wM ⟨vM, rfl, hNM, hbM⟩; have hSM := sK (cv := .slice Ac C.length cc) (mv := .slice Am M.length cm) (g := g) (w := w) (by assumption) hbM; obtain ⟨AM, cM, rfl⟩ := Kd.N_slice hNM))
  go_wp2_with fail
  go_ret
  have hb1 : Below w.heap.size w wM := hSM.1
  have hsA : w.heap.size ≤ wA.heap.size := hSA.1.size
  have hsC : wA.heap.size ≤ wC.heap.size := hbC.size
  have hsM : wC.heap.size ≤ wM.heap.size := hbM.size
  have bA := Kd.N_base hNA
  have bC := Kd.N_base hNC
  have bM := Kd.N_base hNM
  have lC := Kd.N_lt hNC
  have lM := Kd.N_lt hNM
  have lA := Kd.N_lt hNA
  have eC := HC0.out
  subst eC
  refine ⟨below_alloc hb1 _, wM.heap.size, rfl, _, _, _, ⟨raw_made hb1.size hb1.size ⟨rfl, rfl, rfl⟩, ?_, ?_, ?_⟩⟩
  · refine Kd.N_alloc (Kd.N_mono (Kd.N_below (Kd.N_below (Kd.N_bound hNA) hbC) hbM) (fun k hk => ⟨hk.1, by have := hk.2; omega, fun e => by have := bC k e.symm; have := hk.2; omega, fun e => by have := bM k e.symm; have := hk.2; omega⟩)) _
  · refine Kd.N_alloc (N_none (Kd.N_lower (Kd.N_below hNC hbM) hsA) (fun k hk => ⟨by have := bC k hk; omega, by have := lC k hk; omega, fun e => by have := lA k e.symm; have := bC k hk; omega, fun e => by have := bM k e.symm; have := lC k hk; omega⟩)) _
  · refine R_int (Kd.N_alloc (N3 (Kd.N_lower hNM (Nat.le_trans hsA hsC)) (fun k hk => ⟨by have := bM k hk; omega, by have := lM k hk; omega, fun e => by have := lA k e.symm; have := bM k hk; omega, fun e => by have := lC k e.symm; have := bM k hk; omega⟩)) _)
end
end Go.Proofs.Ytcjachhdoogbaaa.PT
