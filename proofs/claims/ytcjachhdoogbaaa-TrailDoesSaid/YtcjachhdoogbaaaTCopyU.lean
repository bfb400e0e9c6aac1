/- Copy: a store of its own but for the changes' domains, which it only reads: apart from what the elder store's calls write. No conditions but the lengths' bounds. -/
import Derived.Test.YtcjachhdoogbaaaTUni
import Derived.Test.YtcjachhdoogbaaaTNewc
import Derived.Deep.RegionHeld3
set_option linter.unusedVariables false
set_option linter.unusedSimpArgs false
namespace Go.Proofs.Ytcjachhdoogbaaa.PT
open Go.RowKit Go.Proofs.YtcjachhdoogbaaaW.PrintWords Go.Proofs.YtcjachhdoogbaaaW.PrintLast Go.Proofs.YtcjachhdoogbaaaW.PrintMore
set_option maxRecDepth 100000 in
set_option maxHeartbeats 1000000 in
theorem clone43r (A : Option Addr) (c : Nat) (l : List (List Value)) (w : World) (okp : Nat → Prop) (h : Kd.F (Kd.raw 2) w okp A l.length l) (hl : l.length * 32 ≤ 140737488355328) :
    Calls Try.prog 43 #[.slice A l.length c] w fun e w' => ∃ v, e = .returned v ∧ Kd.N (Kd.raw 2) 67 w' w.heap.size (fun k => okp k ∨ w.heap.size ≤ k) v l ∧ Below w.heap.size w w' := by
  have HF := Aside0.mk (Kd.F_bound h)
  have HL := Aside0.mk hl
  have HB := Aside0.mk (Below.refl w.heap.size w)
  clear h hl
  rcases A with _ | ad
  · have h0 : l = [] := by
      rcases Nat.eq_zero_or_pos l.length with h0 | h0
      · exact List.eq_nil_of_length_eq_zero h0
      · obtain ⟨ad, h, _⟩ := (Kd.F_now HF.out).2.2 h0
        cases h
    subst h0
    have he : ∀ w : World, (binOp .eql 37 (.slice none 0 c) (.slice none 0 0)).run Try.prog w = .ok (.bool true) w := fun _ => rfl
    go_enter Try.func43, Try.ntmps43
    go_wp2
    go_ret
    exact ⟨_, rfl, Kd.N_nil _ _ _ _ _, HB.out⟩
  · have he : ∀ w : World, (binOp .eql 37 (.slice (some ad) l.length c) (.slice none 0 0)).run Try.prog w = .ok (.bool false) w := fun _ => rfl
    go_enter Try.func43, Try.ntmps43
    go_wp2_with (first | ((with_reducible refine gate_dst (N := 5) rfl ?_); refine Kd.N_lit (Kd.raw 2) (w0 := w) w.heap.size 67 ?hg (N' := 5) ?hd (xs := ([] : List (List Value))) (inner := []) (ok := fun k => (okp k ∧ k < w.heap.size) ∨ w.heap.size ≤ k) (okp := fun _ => False) ?hr ?hp (fun _ hk => hk.elim) (.inr (Nat.le_refl _)) HB.out (Nat.le_refl _) (by simp) ?_; (case hd => rfl); (case hg => rfl); (case hr => first | (go_simp; done) | (go_simp; rfl)); (case hp => exact (Reps.none _ _)); intro v1 w1 hN hb hg hat; have HN := Aside0.mk hN; have HB1 := Aside0.mk hb; have HA := Aside0.mk hat; clear hN hb hg hat) | ((with_reducible refine gate_builtin (b := .append) (xs := #[.tmp 5, .tmp 6]) rfl ?_); at_builtin; refine Kd.N_append_rows (Kd.raw 2) (w0 := w) w.heap.size rfl (.tmp 5) (.tmp 6) 37 67 (.agg #[(.int .i64 0), (.slice none 0 0)]) 32 rfl Try.underlying37 info67 rfl (by decide) (by omega) v1 [] l (some ad) l.length c _ (fun k => okp k ∧ k < w.heap.size) rfl rfl HN.out (Kd.F_below HF.out HB1.out) ?aK (fun k hk => .inr (Nat.le_trans HB1.out.size hk)) HB1.out HB1.out.size (by have := HL.out; simpa using this) ?_; (case aK => exact fun k hk => ⟨.inl hk, fun he => by obtain ⟨b, hb, hlt⟩ := HA.out; rw [hb] at he; cases he; omega⟩); intro v2 w2 hN2 hb2 hg2 hat2; have HN2 := Aside0.mk hN2; have HB2 := Aside0.mk hb2; clear hN2 hb2 hg2 hat2))
    go_ret
    exact ⟨_, rfl, Kd.N_mono HN2.out (fun k hk => hk.imp And.left id), HB2.out⟩
theorem clone43n (A : Option Addr) (c : Nat) (l : List (List Value)) (w : World) (n : Nat) (hn : l.length = n) (okp : Nat → Prop) (h : Kd.F (Kd.raw 2) w okp A l.length l) (hl : l.length * 32 ≤ 140737488355328) :
    Calls Try.prog 43 #[.slice A n c] w fun e w' => ∃ v, e = .returned v ∧ Kd.N (Kd.raw 2) 67 w' w.heap.size (fun k => okp k ∨ w.heap.size ≤ k) v l ∧ Below w.heap.size w w' := by
  subst hn; exact clone43r A c l w okp h hl
/-- A row of cells that are known, as a row of what they lead to. -/
theorem N_re {α : Type} {d : Kd α} {sz e base : Nat} {w : World} {ok ok' okp : Nat → Prop} {v : Value} {rows : List (List Value)} {xs : List α} (hsz : d.sz = sz) (h : Kd.N (Kd.raw sz) e w base ok' v rows) (hl : rows.length = xs.length) (hk : ∀ k, v.ownBlock = some k → ok k)
    (hf : ∀ (j : Nat) (x : α) (c : List Value), xs[j]? = some x → rows[j]? = some c → Kd.FK d w okp x c) (hp : ∀ k, okp k → ok k ∧ some k ≠ v.ownBlock) : Kd.N d e w base ok v xs := by
  subst hsz
  obtain ⟨_, rows2, hl2, hR, hf2⟩ := h
  refine ⟨hk, rows2, hl2.trans hl, hR, fun j x c hx hc => ?_⟩
  have hj : j < rows.length := by rw [← hl2]; exact (List.getElem?_eq_some_iff.1 hc).1
  have h1 := List.getElem?_eq_getElem hj
  have h2 : c = rows[j] := (Kd.FK_now (hf2 j _ c h1 hc)).1
  rw [← h2] at h1
  exact Kd.FK_mono (hf j x c hx h1) hp
theorem R_int {e base : Nat} {w : World} {ok : Nat → Prop} {v : Value} {xs : List Int} (h : Kd.N (Kd.int .i64) e w base ok v xs) : (Kd.int .i64).R e w base ok v xs := by
  obtain ⟨h0, rows, hl, ⟨_, inner, ho, hr⟩, hf⟩ := h
  refine ⟨h0, inner, by rw [← hl]; exact ho, by rw [← hl]; exact hr.1, fun j x hx => ?_⟩
  have hj : j < rows.length := by rw [hl]; exact (List.getElem?_eq_some_iff.1 hx).1
  have hc := List.getElem?_eq_getElem hj
  have h1 := hr.2 j _ hc
  have h2 := Kd.FK_now (hf j x _ hx hc)
  have h3 : rows[j] = [Value.int .i64 x] := h2
  have h4 : (inner.drop (j * 1)).take 1 = rows[j] := h1.1
  show (inner.drop (j * 1)).take 1 = [Value.int .i64 x]
  rw [h4, h3]
section
variable {T : Nat → Prop} {w0 w w1 w2 : World} {base g : Nat} {lv cv mv : Value} {L : List (List S62)} {C : List S67} {M : List Int}
set_option maxRecDepth 100000
set_option maxHeartbeats 4000000
theorem copyU_calls (h : St T w base g L C M) (hbase : base ≤ w.heap.size) (hl : ∀ x ∈ L, x.length ≤ 1000000) (hbig : L.length ≤ 1000000 ∧ C.length ≤ 1000000 ∧ M.length ≤ 1000000) :
    Calls Try.prog 31 #[.pointer (some ⟨g, 0, none⟩)] w fun e w' => Below w.heap.size w w' ∧ ∃ g' U, e = .returned (.pointer (some ⟨g', 0, none⟩)) ∧ (∀ k, U k → T k ∧ k < w.heap.size) ∧ StU T U w' base g L C M ∧ St (fun k => (T k ∧ ¬ U k) ∨ w.heap.size ≤ k) w' base g' L C M := by
  obtain ⟨lv, cv, mv, h⟩ := h
  obtain ⟨⟨Al, cl, rfl, _⟩, ⟨Ac, cc, rfl, _⟩, Am, cm, rfl, _⟩ := h.forms
  obtain ⟨h0, h1, h2⟩ := h.cells
  have HH := Aside0.mk h
  have HBS := Aside0.mk hbase
  clear hbase
  obtain ⟨_, rows, hrl, hrR, hrF⟩ := h.c
  have HRL := Aside0.mk hrl
  have HRR := Aside0.mk (Kd.R_F hrR)
  have HRF := Aside0.mk hrF
  clear hrl hrR hrF
  have HL := Aside0.mk hl
  have HG := Aside0.mk hbig
  have B0 := Aside0.mk (below_drew (Below.refl w.heap.size w))
  have H1 := Aside0.mk h1
  have H2 := Aside0.mk h2
  clear h hl hbig h0
  go_enter Try.func31, Try.ntmps31
  go_wp2_with fail
  go_region_held3 (fun W => Below w.heap.size w W ∧ W.cell? ⟨g, 1, none⟩ = some (.slice Ac C.length cc) ∧ W.cell? ⟨g, 2, none⟩ = some (.slice Am M.length cm))
    (first | exact ⟨below_drew (Below.refl _ _), h1, h2⟩ | exact hSA | exact hSC | exact hSM | exact sK hSM (below_alloc (Below.refl _ _) _))
    (first
    | (go_at_call 22; refine (all_calls (T := T) (base := base) (g := g) (C := C) (M := M) ⟨_, _, _, HH.out.below (sL (by assumption))⟩ HL.out HG.out.1).mono ?_; rintro e wA ⟨vA, rfl, hNA, hbA⟩; have hSA := sK (cv := .slice Ac C.length cc) (mv := .slice Am M.length cm) (g := g) (w := w) (by assumption) hbA; obtain ⟨AA, cA, rfl⟩ := Kd.N_slice hNA)
    | (go_at_call 43; refine (clone43n Ac cc rows _ C.length HRL.out (fun k => some k = (Value.slice Ac C.length cc).ownBlock) (by rw [HRL.out]; exact Kd.F_below HRR.out (sL (by assumption))) (by have := HG.out.2.1; have := HRL.out; omega)).mono ?_; rintro e wC ⟨vC, rfl, hNC, hbC⟩; have hSC := sK (cv := .slice Ac C.length cc) (mv := .slice Am M.length cm) (g := g) (w := w) (by assumption) hbC; obtain ⟨AC, cC, rfl⟩ := Kd.N_slice hNC)
    | (go_at_call 44; refine (clone44 Am cm M _ _ (Kd.C_F (Kd.heap_int _) (Kd.C_below (Kd.R_reads' HH.out.m).2.2 (sL (by assumption)))) (by have := HG.out.2.2; omega)).mono ?_; rintro e wM ⟨vM, rfl, hNM, hbM⟩; have hSM := sK (cv := .slice Ac C.length cc) (mv := .slice Am M.length cm) (g := g) (w := w) (by assumption) hbM; obtain ⟨AM, cM, rfl⟩ := Kd.N_slice hNM))
  go_wp2_with fail
  go_ret
  have hb1 : Below w.heap.size w wM := hSM.1
  have hsA : w.heap.size ≤ wA.heap.size := hSA.1.size
  have hsC : wA.heap.size ≤ wC.heap.size := hbC.size
  have hsM : wC.heap.size ≤ wM.heap.size := hbM.size
  have bA : ∀ k, (Value.slice AA L.length cA).ownBlock = some k → w.heap.size ≤ k := Kd.N_base hNA
  have bC := Kd.N_base hNC
  have bM := Kd.N_base hNM
  have lC := Kd.N_lt hNC
  have lM := Kd.N_lt hNM
  have lA := Kd.N_lt hNA
  obtain ⟨hog, hol, hoc, hom⟩ := HH.out.own
  obtain ⟨hlg, hll, hlc, hlm⟩ := HH.out.lt
  have hbw := HBS.out
  refine ⟨below_alloc hb1 _, wM.heap.size, fun k => k = g ∨ some k = (Value.slice Al L.length cl).ownBlock ∨ some k = (Value.slice Ac C.length cc).ownBlock ∨ some k = (Value.slice Am M.length cm).ownBlock, rfl, ?_, ⟨_, _, _, HH.out.below (below_alloc hb1 _), .inl rfl, fun k hk => .inr (.inl hk.symm), fun k hk => .inr (.inr (.inl hk.symm)), fun k hk => .inr (.inr (.inr hk.symm))⟩, ⟨_, _, _, ⟨raw_made (Nat.le_trans hbw hb1.size) (.inr hb1.size) ⟨rfl, rfl, rfl⟩, ?_, ?_, ?_⟩⟩⟩
  · rintro k (rfl | hk | hk | hk)
    · exact ⟨hog, hlg⟩
    · exact ⟨(hol k hk.symm).1, hll k hk.symm⟩
    · exact ⟨(hoc k hk.symm).1, hlc k hk.symm⟩
    · exact ⟨(hom k hk.symm).1, hlm k hk.symm⟩
  · refine Kd.N_lower (Kd.N_alloc (Kd.N_mono (Kd.N_below (Kd.N_below (Kd.N_bound hNA) hbC) hbM) (fun k hk => ⟨.inr hk.1, by have := hk.2; omega, fun e => by have := bC k e.symm; have := hk.2; omega, fun e => by have := bM k e.symm; have := hk.2; omega⟩)) _) hbw
  · refine Kd.N_lower (Kd.N_alloc (N_re (okp := fun k => (((T k ∧ k ≠ g ∧ some k ≠ (Value.slice Al L.length cl).ownBlock ∧ some k ≠ (Value.slice Am M.length cm).ownBlock) ∧ some k ≠ (Value.slice Ac C.length cc).ownBlock) ∧ k < w.heap.size)) rfl (Kd.N_lower (Kd.N_below hNC hbM) hsA) HRL.out (fun k hk => ⟨.inr (by have := bC k hk; omega), by have := lC k hk; omega, fun e => by have := lA k e.symm; have := bC k hk; omega, fun e => by have := bM k e.symm; have := lC k hk; omega⟩)
      (fun j x c hx hc => Kd.FK_below (Kd.FK_bound (HRF.out j x c hx hc)) hb1) (fun k hk => ⟨⟨.inl ⟨hk.1.1.1, fun hu => hu.elim (fun e => hk.1.1.2.1 e) (fun hu => hu.elim (fun e => hk.1.1.2.2.1 e) (fun hu => hu.elim (fun e => hk.1.2 e) (fun e => hk.1.1.2.2.2 e)))⟩, by have := hk.2; have := hb1.size; omega, fun e => by have := bA k e.symm; have := hk.2; omega, fun e => by have := bM k e.symm; have := hk.2; omega⟩, fun e => by have := bC k e.symm; have := hk.2; omega⟩)) _) hbw
  · refine Kd.R_lower (R_int (Kd.N_alloc (N3 (Kd.N_lower hNM (Nat.le_trans hsA hsC)) (fun k hk => ⟨.inr (by have := bM k hk; omega), by have := lM k hk; omega, fun e => by have := lA k e.symm; have := bM k hk; omega, fun e => by have := lC k e.symm; have := bM k hk; omega⟩)) _)) hbw
end
end Go.Proofs.Ytcjachhdoogbaaa.PT
