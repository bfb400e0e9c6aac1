/- New and Copy of package trail. No conditions but the lengths' bounds. -/
import Derived.Test.YtcjachhdoogbaaaTBack
import Derived.Deep.RegionHeld3
set_option linter.unusedVariables false
set_option linter.unusedSimpArgs false
namespace Go.Proofs.Ytcjachhdoogbaaa.PT
open Go.RowKit Go.Proofs.YtcjachhdoogbaaaW.PrintWords Go.Proofs.YtcjachhdoogbaaaW.PrintLast Go.Proofs.YtcjachhdoogbaaaW.PrintMore
/-! New: a store of copies of the domains, or what is wrong with them. No conditions but the lengths' bounds. -/
section
theorem raw_made {w : World} {base e : Nat} {ok : Nat → Prop} {a b c : Value} (hb : base ≤ w.heap.size) (ho : ok w.heap.size) (h1 : a.oneCell' = true ∧ b.oneCell' = true ∧ c.oneCell' = true) : (Kd.raw 3).R e (w.alloc (.cells #[a, b, c] e)) base ok (one w.heap.size) [[a, b, c]] := by
  refine ⟨fun k hk => by rw [one_own] at hk; cases hk; exact ho, [a, b, c], ?_, ?_⟩
  · exact ⟨rfl, .inr ⟨w.heap.size, 1, #[a, b, c], rfl, hb, heap_alloc_new w _, Nat.le_refl _, by decide, rfl, rfl⟩⟩
  · refine ⟨rfl, fun j x hx => ?_⟩
    rcases j with _ | j
    · have hx : some [a, b, c] = some x := hx
      cases hx
      refine ⟨rfl, rfl, fun u hu => ?_⟩
      have hu : u ∈ [a, b, c] := hu
      simp only [List.mem_cons, List.not_mem_nil, or_false] at hu
      rcases hu with rfl | rfl | rfl
      · exact h1.1
      · exact h1.2.1
      · exact h1.2.2
    · simp at hx
theorem take_snoc {α : Type} {T : List α} {i : Nat} {x : α} (h : T[i]? = some x) : T.take i ++ [x] = T.take (i + 1) := by
  rw [List.take_add_one, h]; rfl
/-- What is wrong with the first of the domains that is none, or 0. -/
def newS (k : Nat) : List (List S62) → Option Int
  | [] => some 0
  | d :: l => (dom_Check.f k d).bind fun e => if e = 0 then newS k l else some e
/-- Behind an append to the domains and a store of them. -/
theorem StV.grew {T : Nat → Prop} {w w1 w2 : World} {base g : Nat} {lv cv mv lv1 : Value} {L L1 : List (List S62)} {C : List S67} {M : List Int} (h : StV T w base g lv cv mv L C M) (hR : Kd.N kL 31 w1 base (fun k => (T k ∨ w.heap.size ≤ k) ∧ k ≠ g ∧ some k ≠ cv.ownBlock ∧ some k ≠ mv.ownBlock) lv1 L1) (hg : w.grownBy w1 lv.ownBlock)
    (hat : lv1.ownBlock = lv.ownBlock ∨ ∃ b, lv1.ownBlock = some b ∧ w.heap.size ≤ b) (hs : (Kd.raw 3).R 39 w2 base T (one g) [[lv1, cv, mv]]) (hg2 : w1.grownBy w2 (some g)) :
    StV (fun k => T k ∨ w.heap.size ≤ k) w2 base g lv1 cv mv L1 C M ∧ Kept w w2 T := by
  obtain ⟨hlg, hll, hlc, hlm⟩ := h.lt
  obtain ⟨hog, hol, hoc, hom⟩ := h.own
  have hne : ∀ k, k < w.heap.size → some k ≠ lv.ownBlock → some k ≠ lv1.ownBlock := fun k hk hn he => by
    rcases hat with e | ⟨b, e, hb⟩
    · exact hn (he.trans e)
    · rw [e] at he; cases he; omega
  refine ⟨⟨Kd.R_mono hs (fun k hk => .inl hk), ?_, ?_, ?_⟩, ?_⟩
  · exact Kd.N_grown hR hg2 (fun k hk e => hk.2.1 (by simpa using e))
  · refine Kd.N_mono (Kd.N_grown (Kd.N_grown (Kd.N_bound h.c) hg (fun k hk => hk.1.2.2.1)) hg2 (fun k hk e => hk.1.2.1 (by simpa using e))) (fun k hk => ⟨.inl hk.1.1, hk.1.2.1, hne k hk.2 hk.1.2.2.1, hk.1.2.2.2⟩)
  · refine Kd.R_mono (Kd.R_grown (Kd.R_grown (Kd.R_bound h.m) hg (fun k hk => hk.1.2.2.1)) hg2 (fun k hk e => hk.1.2.1 (by simpa using e))) (fun k hk => ⟨.inl hk.1.1, hk.1.2.1, hne k hk.2.2.1 hk.1.2.2.1, hk.1.2.2.2⟩)
  · exact (Kept.of_grown hg2 (Kept.of_grown hg (Kept.refl w T) (fun k hk => .inl (hol k hk).1)) (fun k hk => .inl (by cases hk; exact hog)))
set_option maxRecDepth 100000
set_option maxHeartbeats 4000000
theorem new_calls (k : Nat) (A : Option Addr) (c : Nat) (l : List (List S62)) (r : Int) (w : World) (hC : Kd.C kL w A l.length l) (hlc : l.length ≤ c) (hbig : l.length ≤ 1000000 ∧ ∀ x ∈ l, x.length ≤ 1000000) (hr : newS k l = some r) :
    Calls Try.prog 10 #[.slice A l.length c] w fun e w' => Below w.heap.size w w' ∧
      ((r = 0 ∧ ∃ g, e = .returned (.tuple #[.pointer (some ⟨g, 0, none⟩), .int .i64 0]) ∧ St (fun k => w.heap.size ≤ k) w' w.heap.size g l [] []) ∨ (r ≠ 0 ∧ e = .returned (.tuple #[.pointer none, .int .i64 r]))) := by
  have HC := Aside0.mk hC
  have HG := Aside0.mk hbig
  have HR := Aside0.mk hr
  clear hC hlc hbig hr
  go_enter Try.func10, Try.ntmps10
  go_wp2_with fail
  go_loopg [12] l.length (fun j v12 wr => ∃ i : Nat, v12 = .int .i64 (i : Int) ∧ Aside0 (i + j = l.length ∧ newS k (l.drop i) = some r) ∧ Aside0 (∃ lv, StV (fun k => w.heap.size ≤ k) wr w.heap.size w.heap.size lv (.slice none 0 0) (.slice none 0 0) (l.take i) [] []) ∧ Aside0 (Below w.heap.size w wr))
  case atStart =>
    refine ⟨0, rfl, ⟨Nat.zero_add _, HR.out⟩, ⟨.slice none 0 0, raw_made (Nat.le_refl _) (Nat.le_refl _) ⟨rfl, rfl, rfl⟩, Kd.N_nil _ _ _ _ _, Kd.N_nil _ _ _ _ _, Kd.R_nil _ _ _ _ _⟩, ⟨below_alloc (Below.refl _ _) _⟩⟩
  case round =>
    obtain ⟨i, rfl, HI, HST, HB⟩ := hrel
    by_cases hi : i < l.length
    · have hi1 : (i : Int) < (l.length : Int) := by omega
      obtain ⟨ad, A0, c0, e, hx, hl0, hi0⟩ := at_L3 HC.out (i : Int) (by omega) hi1
      cases e
      rw [Int.toNat_natCast] at hx
      replace hx := (HB.out.cell (World.block_lt_of_cell? w _ hx)).trans hx
      have HD := Aside0.mk (Kd.C_below hi0 HB.out)
      have HL0 := Aside0.mk hl0
      have HLT := Aside0.mk hi
      have hgd : l[i]? = some (rd_L3 l i) := by simp [rd_L3, List.getD_eq_getElem?_getD, List.getElem?_eq_getElem hi]
      have HLE := Aside0.mk (HG.out.2 (rd_L3 l i) (List.mem_of_getElem? hgd))
      have hdr : l.drop i = rd_L3 l i :: l.drop (i + 1) := by
        rw [List.drop_eq_getElem_cons hi]; congr 1
        rw [List.getElem?_eq_getElem hi] at hgd; exact Option.some.inj hgd
      have h5 := HI.out.2
      rw [hdr, newS] at h5
      obtain ⟨e0, hck, h5⟩ := Option.bind_eq_some_iff.mp h5
      have HCK := Aside0.mk hck
      have H5 := Aside0.mk h5
      have HDR := Aside0.mk hdr
      have HGD := Aside0.mk hgd
      have q1 := eq_true hi1
      have q2 := eq_true hi
      have q3 : decide ((i : Int) < (l.length : Int)) = true := decide_eq_true hi1
      have HW := Aside0.mk (wrap_next i (by have := HG.out.1; omega))
      obtain ⟨j, hj⟩ : ∃ j, gk = j + 1 := ⟨gk - 1, by have := HI.out.1; omega⟩
      have HJ := Aside0.mk hj
      clear hi0 hl0 hi hi1 hgd hdr h5 hck hj
      go_wp2_with fail
      refine (dom_Check.calls k A0 c0 (rd_L3 l i) e0 wr HD.out HL0.out HCK.out).mono ?_
      rintro e w2 ⟨rfl, hb⟩
      have HB2 := Aside0.mk (HB.out.trans (hb.mono HB.out.size))
      have HBK := Aside0.mk hb
      clear hb
      by_cases he : e0 = 0
      · subst he
        obtain ⟨lv, hst⟩ := HST.out
        obtain ⟨⟨Al, cl, elv, _⟩, _⟩ := hst.forms
        subst elv
        have HS2 := Aside0.mk (hst.below HBK.out)
        obtain ⟨g0, _, _⟩ := HS2.out.cells
        clear hst
        go_wp2_with fail
        have HD2 := Aside0.mk (Kd.C_below (Kd.C_below HD.out HBK.out) (below_drew (Below.refl w2.heap.size w2)))
        obtain ⟨tt, htt⟩ : ∃ tt, tt = l.take i := ⟨_, rfl⟩
        have HTT := Aside0.mk htt
        have htl : tt.length ≤ 1000000 := by rw [htt, List.length_take]; have := HG.out.1; omega
        have HTL := Aside0.mk htl
        rw [← htt] at HS2 g0
        clear htl htt hx
        go_region_law (first
          | (refine Kd.N_append_step kL (w0 := w) (W := w3) w.heap.size (by rfl) (.tmp 26) (.tmp 29) 28 31 (.slice none 0 0) 24 rfl Try.underlying28 info31 rfl (by decide) (by omega) (.slice Al tt.length cl) tt (rd_L3 l i) [.slice A3 (rd_L3 l i).length c3] (fun k => (w.heap.size ≤ k ∨ w3.heap.size ≤ k) ∧ k ≠ w.heap.size ∧ some k ≠ (Value.slice none 0 0).ownBlock ∧ some k ≠ (Value.slice none 0 0).ownBlock) (fun k => w2.heap.size ≤ k) rfl rfl (FK_of_N HN3.out) ?aP ?aF ?aO ?aB ?aS ?aL ?_
             (case aP => exact fun k hk => ⟨⟨.inl (Nat.le_trans HB2.out.size hk), fun e => absurd HS2.out.lt.1 (by rw [← e]; exact Nat.not_lt.2 hk), by simp [Value.ownBlock], by simp [Value.ownBlock]⟩, fun e => absurd (HS2.out.lt.2.1 k e.symm) (Nat.not_lt.2 hk)⟩)
             (case aF => exact fun k hk => ⟨.inr hk, fun e => absurd HS2.out.lt.1 (by rw [← e]; exact Nat.not_lt.2 (Nat.le_trans HB3.out.size hk)), by simp [Value.ownBlock], by simp [Value.ownBlock]⟩)
             (case aO => exact Kd.N_mono (Kd.N_below (Kd.N_drew HS2.out.l) HB3.out) (fun k hk => ⟨.inl hk.1, hk.2⟩))
             (case aB => exact (below_drew HB2.out).trans (HB3.out.mono HB2.out.size))
             (case aS => exact Nat.le_trans HB2.out.size HB3.out.size)
             (case aL => have := HTL.out; omega)
             intro v4 w4 ho hb hg hat
             have hs1 := StV.s_after ((HS2.out.below (below_drew (Below.refl _ _))).below HB3.out) hg (fun k e => (HS2.out.own.2.1 k e).2.1)
             have hc1 := (raw_cells hs1).1
             have hf1 := raw_free hs1 0
             obtain ⟨A4, c4, rfl⟩ := Kd.N_slice ho
             have HO := Aside0.mk ho
             have HB4 := Aside0.mk hb
             have HG4 := Aside0.mk hg
             have HA := Aside0.mk hat
             have HS1 := Aside0.mk hs1
             clear ho hb hg hat hs1)
          | (go_simp
             go_at_call 33
             refine (clone_r A0 c0 (rd_L3 l i) w2.drew HD2.out (by have := HLE.out; omega)).mono ?_
             rintro e w3 ⟨v3, rfl, hN3, hb3⟩
             obtain ⟨A3, c3, rfl⟩ := Kd.N_slice hN3
             have HN3 := Aside0.mk hN3
             have HB3 := Aside0.mk hb3
             have g3 := (hb3.cell (World.block_lt_of_cell? w2.drew _ g0)).trans g0
             have g3a : ∀ o : Obj, (w3.alloc o).cell? ⟨w.heap.size, 0, none⟩ = some (.slice Al tt.length cl) := fun o => (World.cell?_alloc_lt _ _ _ (World.block_lt_of_cell? w3 _ g3)).trans g3
             clear hN3 hb3
             go_simp))
        all_goals
          obtain ⟨hs2, hg2⟩ := raw_set HS1.out 0 (by omega) (u := .slice A4 (tt.length + 1) c4) rfl
          have e1 : (tt ++ [rd_L3 l i]).length = tt.length + 1 := by simp
          have hO := HO.out
          have hA := HA.out
          rw [e1] at hO hA
          obtain ⟨hst, hk⟩ := StV.grew ((HS2.out.below (below_drew (Below.refl _ _))).below HB3.out) hO HG4.out hA hs2 hg2
          have hbs := HB4.out.grown hg2 (Nat.le_trans (Nat.le_trans HB2.out.size HB3.out.size) HG4.out.size) (fun k e => by cases e; exact Nat.le_refl _)
          have HST5 := Aside0.mk (hst.mono (T' := fun k => w.heap.size ≤ k) (fun k hk => hk.elim id (fun hk => Nat.le_trans (Nat.le_trans HB2.out.size HB3.out.size) hk)))
          have HB5 := Aside0.mk hbs
          clear hs2 hg2 e1 hO hA hst hk hbs HS1 HO HA HG4 HB4 hc1 hf1 g0 g3 g3a
          go_wp2
          go_roundg j
          case measure => have := HJ.out; omega
          case rel =>
            refine ⟨i + 1, by rw [HW.out], ⟨by have := HI.out.1; have := HJ.out; omega, ?_⟩, ⟨⟨.slice A4 (tt.length + 1) c4, ?_⟩⟩, HB5⟩
            · have := H5.out
              first | rwa [if_pos rfl] at this | rwa [if_pos trivial] at this
            · rw [← take_snoc HGD.out, ← HTT.out]
              exact HST5.out
      · have h6 := H5.out
        rw [if_neg he] at h6
        have e1 : (e0 == 0) = false := beq_eq_false_iff_ne.mpr he
        have e2 : (e0 != 0) = true := bne_iff_ne.mpr he
        have HE := Aside0.mk he
        clear he H5
        cases h6
        go_wp2
        go_ret2
        exact ⟨HB2.out, .inr ⟨HE.out, rfl⟩⟩
    · have hi' : i = l.length := by have := HI.out.1; omega
      subst hi'
      have d1 : decide ((l.length : Int) < (l.length : Int)) = false := by simp
      go_wp2
      go_ret2
      obtain ⟨lv, h⟩ := HST.out
      have h5 := HI.out.2
      rw [List.drop_length] at h5
      cases h5
      rw [List.take_length] at h
      exact ⟨HB.out, .inl ⟨rfl, _, rfl, ⟨_, _, _, h⟩⟩⟩
end
/-! Copy: another store in the same state. No conditions but the lengths' bounds. -/
section
theorem sK {w W W' : World} {g : Nat} {cv mv : Value} (h : Below w.heap.size w W ∧ W.cell? ⟨g, 1, none⟩ = some cv ∧ W.cell? ⟨g, 2, none⟩ = some mv) (hb : Below W.heap.size W W') : Below w.heap.size w W' ∧ W'.cell? ⟨g, 1, none⟩ = some cv ∧ W'.cell? ⟨g, 2, none⟩ = some mv :=
  ⟨h.1.trans (hb.mono h.1.size), (hb.cell (World.block_lt_of_cell? W _ h.2.1)).trans h.2.1, (hb.cell (World.block_lt_of_cell? W _ h.2.2)).trans h.2.2⟩
theorem sL {w W : World} {g : Nat} {cv mv : Value} (h : Below w.heap.size w W ∧ W.cell? ⟨g, 1, none⟩ = some cv ∧ W.cell? ⟨g, 2, none⟩ = some mv) : Below w.heap.size w W := h.1
section
variable {T : Nat → Prop} {w0 w w1 w2 : World} {base g : Nat} {lv cv mv : Value} {L : List (List S62)} {C : List S67} {M : List Int}
set_option maxRecDepth 100000
set_option maxHeartbeats 4000000
theorem copy_calls (h : St T w base g L C M) (hl : ∀ x ∈ L, x.length ≤ 1000000) (hbig : L.length ≤ 1000000 ∧ C.length ≤ 1000000 ∧ M.length ≤ 1000000) :
    Calls Try.prog 31 #[.pointer (some ⟨g, 0, none⟩)] w fun e w' => Below w.heap.size w w' ∧ ∃ g', e = .returned (.pointer (some ⟨g', 0, none⟩)) ∧
      ∃ lv cv mv, (Kd.raw 3).R 39 w' w.heap.size (fun k => w.heap.size ≤ k) (one g') [[lv, cv, mv]] ∧ Kd.N kL 31 w' w.heap.size (fun k => w.heap.size ≤ k ∧ k ≠ g') lv L ∧ Kd.N k67 67 w' w.heap.size (fun k => (T k ∨ w.heap.size ≤ k) ∧ k ≠ g') cv C ∧ Kd.N (Kd.int .i64) 3 w' w.heap.size (fun k => w.heap.size ≤ k ∧ k ≠ g') mv M := by
  obtain ⟨lv, cv, mv, h⟩ := h
  obtain ⟨⟨Al, cl, rfl, _⟩, ⟨Ac, cc, rfl, _⟩, Am, cm, rfl, _⟩ := h.forms
  obtain ⟨h0, h1, h2⟩ := h.cells
  have HH := Aside0.mk h
  have HL := Aside0.mk hl
  have HG := Aside0.mk hbig
  have B0 := Aside0.mk (below_drew (Below.refl w.heap.size w))
  have H1 := Aside0.mk h1
  have H2 := Aside0.mk h2
  clear h hl hbig h0
  go_enter Try.func31, Try.ntmps31
  go_wp2_with fail
  go_region_held3 (fun W => Below w.heap.size w W ∧ W.cell? ⟨g, 1, none⟩ = some (.slice Ac C.length cc) ∧ W.cell? ⟨g, 2, none⟩ = some (.slice Am M.length cm))
    (first | exact ⟨below_drew (Below.refl _ _), h1, h2⟩ | exact hSA | exact hSC | exact hSM | exact sK hSM (below_alloc (Below.refl _ _) _))
    (first
    | (go_at_call 22; refine (all_calls (T := T) (base := base) (g := g) (C := C) (M := M) ⟨_, _, _, HH.out.below (sL (by assumption))⟩ HL.out HG.out.1).mono ?_; rintro e wA ⟨vA, rfl, hNA, hbA⟩; have hSA := sK (cv := .slice Ac C.length cc) (mv := .slice Am M.length cm) (g := g) (w := w) (by assumption) hbA; obtain ⟨AA, cA, rfl⟩ := Kd.N_slice hNA)
    | (go_at_call 43; refine (clone43 Ac cc C _ _ (Kd.N_F (Kd.N_below HH.out.c (sL (by assumption)))) (by have := HG.out.2.1; omega)).mono ?_; rintro e wC ⟨vC, rfl, hNC, hbC⟩; have hSC := sK (cv := .slice Ac C.length cc) (mv := .slice Am M.length cm) (g := g) (w := w) (by assumption) hbC; obtain ⟨AC, cC, rfl⟩ := Kd.N_slice hNC)
    | (go_at_call 44; refine (clone44 Am cm M _ _ (Kd.C_F (Kd.heap_int _) (Kd.C_below (Kd.R_reads' HH.out.m).2.2 (sL (by assumption)))) (by have := HG.out.2.2; omega)).mono ?_; rintro e wM ⟨vM, rfl, hNM, hbM⟩; have hSM := sK (cv := .slice Ac C.length cc) (mv := .slice Am M.length cm) (g := g) (w := w) (by assumption) hbM; obtain ⟨AM, cM, rfl⟩ := Kd.N_slice hNM))
  go_wp2_with fail
  go_ret
  have hb1 : Below w.heap.size w wM := hSM.1
  have hsA : w.heap.size ≤ wA.heap.size := hSA.1.size
  have hsC : wA.heap.size ≤ wC.heap.size := hbC.size
  have hsM : wC.heap.size ≤ wM.heap.size := hbM.size
  refine ⟨below_alloc hb1 _, wM.heap.size, rfl, _, _, _, raw_made hb1.size hb1.size ⟨rfl, rfl, rfl⟩, ?_, ?_, ?_⟩
  · refine Kd.N_alloc (Kd.N_mono (Kd.N_bound (Kd.N_below (Kd.N_below hNA hbC) hbM)) (fun k hk => ⟨hk.1, by omega⟩)) _
  · refine Kd.N_alloc (Kd.N_mono (Kd.N_lower (Kd.N_bound (Kd.N_below hNC hbM)) hsA) (fun k hk => ⟨hk.1.elim (fun h => .inl h.1) (fun h => .inr (Nat.le_trans hsA h)), by omega⟩)) _
  · refine Kd.N_alloc (Kd.N_mono (Kd.N_bound (N3 (ok' := fun k => w.heap.size ≤ k) (Kd.N_lower hNM (Nat.le_trans hsA hsC)) (fun k hk => Nat.le_trans (Nat.le_trans hsA hsC) (Kd.N_base hNM k hk)))) (fun k hk => ⟨hk.1, by omega⟩)) _
end
end
end Go.Proofs.Ytcjachhdoogbaaa.PT
