/- Set: a domain made smaller, in whatever memory. No conditions but the lengths' bounds. -/
import Derived.Test.YtcjachhdoogbaaaTMut
set_option linter.unusedVariables false
set_option linter.unusedSimpArgs false
namespace Go.Proofs.Ytcjachhdoogbaaa.PT
open Go.RowKit Go.Proofs.YtcjachhdoogbaaaW.PrintWords Go.Proofs.YtcjachhdoogbaaaW.PrintLast Go.Proofs.YtcjachhdoogbaaaW.PrintMore
/-- What Set does: the domains and the changes then, and its answer. -/
def setS (k : Nat) (L : List (List S62)) (C : List S67) (i : Int) (d : List S62) : Option (List (List S62) × List S67 × Int) :=
  if 0 ≤ i ∧ i < L.length then
    (dom_Check.f k d).bind fun e => if e = 0 then
      (dom_Minus.f k d (rd_L3 L i)).bind fun m => if (m.length : Int) > 0 then some (L, C, 1) else
        (dom_Same.f k d (rd_L3 L i)).bind fun b => if b = true then some (L, C, 0) else some (L.set i.toNat d, C ++ [⟨i, rd_L3 L i⟩], 0)
    else some (L, C, e)
  else some (L, C, 1)
section
variable {T : Nat → Prop} {w0 w w1 w2 : World} {base g : Nat} {lv cv mv : Value} {L : List (List S62)} {C : List S67} {M : List Int}
/-- Behind an append to the changes and a store of them. -/
theorem StV.changed {cv1 : Value} {C1 : List S67} (h : StV T w base g lv cv mv L C M) (hR : Kd.N k67 67 w1 base (fun k => (T k ∨ w.heap.size ≤ k) ∧ k ≠ g ∧ some k ≠ lv.ownBlock ∧ some k ≠ mv.ownBlock) cv1 C1) (hg : w.grownBy w1 cv.ownBlock)
    (hat : cv1.ownBlock = cv.ownBlock ∨ ∃ b, cv1.ownBlock = some b ∧ w.heap.size ≤ b) (hs : (Kd.raw 3).R 39 w2 base T (one g) [[lv, cv1, mv]]) (hg2 : w1.grownBy w2 (some g)) :
    StV (fun k => T k ∨ w.heap.size ≤ k) w2 base g lv cv1 mv L C1 M ∧ Kept w w2 T := by
  obtain ⟨hlg, hll, hlc, hlm⟩ := h.lt
  obtain ⟨hog, hol, hoc, hom⟩ := h.own
  have hne : ∀ k, k < w.heap.size → some k ≠ cv.ownBlock → some k ≠ cv1.ownBlock := fun k hk hn he => by
    rcases hat with e | ⟨b, e, hb⟩
    · exact hn (he.trans e)
    · rw [e] at he; cases he; omega
  refine ⟨⟨Kd.R_mono hs (fun k hk => .inl hk), ?_, ?_, ?_⟩, ?_⟩
  · refine Kd.N_mono (Kd.N_grown (Kd.N_grown (Kd.N_bound h.l) hg (fun k hk => hk.1.2.2.1)) hg2 (fun k hk e => hk.1.2.1 (by simpa using e))) (fun k hk => ⟨.inl hk.1.1, hk.1.2.1, hne k hk.2 hk.1.2.2.1, hk.1.2.2.2⟩)
  · exact Kd.N_grown hR hg2 (fun k hk e => hk.2.1 (by simpa using e))
  · refine Kd.R_mono (Kd.R_grown (Kd.R_grown (Kd.R_bound h.m) hg (fun k hk => hk.1.2.2.2)) hg2 (fun k hk e => hk.1.2.1 (by simpa using e))) (fun k hk => ⟨.inl hk.1.1, hk.1.2.1, hk.1.2.2.1, hne k hk.2.2.1 hk.1.2.2.2⟩)
  · exact (Kept.of_grown hg2 (Kept.of_grown hg (Kept.refl w T) (fun k hk => .inl (hoc k hk).1)) (fun k hk => .inl (by cases hk; exact hog)))
/-- Behind a store into the domains' row. -/
theorem StV.put {L1 : List (List S62)} (h : StV T w base g lv cv mv L C M) (hR : Kd.N kL 31 w1 base (fun k => T k ∧ k ≠ g ∧ some k ≠ cv.ownBlock ∧ some k ≠ mv.ownBlock) lv L1) (hg : w.grownBy w1 lv.ownBlock) : StV T w1 base g lv cv mv L1 C M ∧ Kept w w1 T := by
  obtain ⟨hlg, hll, hlc, hlm⟩ := h.lt
  obtain ⟨hog, hol, hoc, hom⟩ := h.own
  refine ⟨⟨h.s_after hg (fun k e => (hol k e).2.1), hR, ?_, ?_⟩, ?_⟩
  · exact Kd.N_grown h.c hg (fun k hk => hk.2.2.1)
  · exact Kd.R_grown h.m hg (fun k hk => hk.2.2.1)
  · exact Kept.of_grown hg (Kept.refl w T) (fun k hk => .inl (hol k hk).1)
theorem StV.dom_cell {gl cl : Nat} (h : StV T w base g (.slice (some ⟨gl, 0, none⟩) L.length cl) cv mv L C M) (i : Int) (h0 : 0 ≤ i) (h1 : i < L.length) : (∃ u, w.cell? ⟨gl, i.toNat, none⟩ = some u) ∧ w.frozen? ⟨gl, i.toNat, none⟩ = false := by
  obtain ⟨cs, hcl, hFK, hcc, hfr⟩ := Kd.N_elem h.l ([] : List S62) i h0 h1
  obtain ⟨A, c, rfl, _, _⟩ := Kd.FK_now hFK
  have h2 := hcc 0 _ rfl
  have h3 := hfr 0
  have hs : kL.sz = 1 := rfl
  rw [hs, Nat.mul_one, Nat.add_zero] at h2 h3
  exact ⟨⟨_, h2⟩, h3⟩
theorem StV.put_dom {gl cl : Nat} (h : StV T w base g (.slice (some ⟨gl, 0, none⟩) L.length cl) cv mv L C M) (i : Int) (h0 : 0 ≤ i) (h1 : i < L.length) {A : Option Addr} {n c : Nat} {x : List S62} {okx : Nat → Prop} (hx : Kd.FK kL w okx x [.slice A n c])
    (hok : ∀ k, okx k → (T k ∧ k ≠ g ∧ some k ≠ cv.ownBlock ∧ some k ≠ mv.ownBlock) ∧ k ≠ gl) :
    StV T (w.setCell ⟨gl, i.toNat, none⟩ (.slice A n c)) base g (.slice (some ⟨gl, 0, none⟩) L.length cl) cv mv (L.set i.toNat x) C M ∧ Kept w (w.setCell ⟨gl, i.toNat, none⟩ (.slice A n c)) T ∧ w.grownBy (w.setCell ⟨gl, i.toNat, none⟩ (.slice A n c)) (some gl) := by
  obtain ⟨cs, hcl, hFK, hcc, hfr⟩ := Kd.N_elem h.l ([] : List S62) i h0 h1
  obtain ⟨A0, c0, rfl, _, _⟩ := Kd.FK_now hFK
  obtain ⟨hN, hg⟩ := Kd.N_seg h.l i h0 h1 (c := [.slice A0 ((L.getD i.toNat []).length) c0]) (seg := [.slice A n c]) (j := 0) rfl hcc (by show 0 + 1 ≤ 1; omega) (x' := x) (okp := okx) hx hok
  have e1 : w.setCells gl (i.toNat * kL.sz + 0) [.slice A n c] = w.setCell ⟨gl, i.toNat, none⟩ (.slice A n c) := by
    have hs : kL.sz = 1 := rfl
    rw [hs, Nat.mul_one, Nat.add_zero]; rfl
  rw [e1] at hN hg
  obtain ⟨h3, h4⟩ := StV.put h hN (by simpa [Value.ownBlock] using hg)
  exact ⟨h3, h4, hg⟩
set_option maxRecDepth 100000
set_option maxHeartbeats 4000000
theorem set_calls (k : Nat) (i : Int) (A : Option Addr) (c : Nat) (d : List S62) (okd : Nat → Prop) (L' : List (List S62)) (C' : List S67) (r : Int) (h : St T w base g L C M) (hB : Below base w0 w) (hbase : base ≤ w.heap.size)
    (hd : Kd.F k62 w okd A d.length d) (hap : ∀ k, okd k → ¬ T k) (hdc : d.length ≤ c) (hC : C.length ≤ 1000000) (hdl : d.length ≤ 1000000) (hr : setS k L C i d = some (L', C', r)) :
    Calls Try.prog 14 #[.pointer (some ⟨g, 0, none⟩), .int .i64 i, .slice A d.length c] w fun e w' =>
      e = .returned (.int .i64 r) ∧ St (fun k => T k ∨ w.heap.size ≤ k) w' base g L' C' M ∧ Below base w0 w' ∧ Kept w w' T := by
  obtain ⟨lv, cv, mv, h⟩ := h
  obtain ⟨⟨Al, cl, rfl, _⟩, ⟨Ac, cc, rfl, _⟩, Am, cm, rfl, _⟩ := h.forms
  obtain ⟨h0, h1, h2⟩ := h.cells
  have HH := Aside0.mk h
  have HL := Aside0.mk hC
  have HDL := Aside0.mk hdl
  have HB := Aside0.mk hB
  have HS := Aside0.mk hbase
  have HD := Aside0.mk hd
  have HAP := Aside0.mk hap
  have HDC := Aside0.mk hdc
  have quiet : ∀ w', Below w.heap.size w w' → St (fun k => T k ∨ w.heap.size ≤ k) w' base g L C M ∧ Below base w0 w' ∧ Kept w w' T := fun w' hb =>
    ⟨St.mono ⟨_, _, _, HH.out.below hb⟩ (fun k hk => .inl hk), HB.out.trans (hb.mono HS.out), Kept.of_below hb T⟩
  have QQ := Aside0.mk quiet
  clear h hC hdl hB hbase hd hap hdc quiet
  unfold setS at hr
  by_cases c0 : 0 ≤ i ∧ i < L.length
  · rw [if_pos c0] at hr
    replace hr := Option.bind_eq_some_iff.mp hr
    obtain ⟨e0, hck, hr⟩ := hr
    have hd0 : decide (0 ≤ i ∧ i < L.length) = true := decide_eq_true c0
    have HD0 := Aside0.mk hd0
    have HCK := Aside0.mk hck
    have CC := Aside0.mk c0
    clear hd0 hck
    by_cases ce : e0 = 0
    · rw [if_pos ce] at hr
      replace hr := Option.bind_eq_some_iff.mp hr
      obtain ⟨m, hmi, hr⟩ := hr
      have HMI := Aside0.mk hmi
      have HR := Aside0.mk hr
      subst ce
      clear hmi hr c0 h2
      go_enter Try.func14, Try.ntmps14
      go_wp2_with fail
      refine (is_calls i ⟨_, _, _, HH.out⟩).mono ?_
      rintro e w1 ⟨rfl, hb⟩
      rw [HD0.out]
      have HB1 := Aside0.mk hb
      clear hb
      go_wp2_with fail
      refine (dom_Check.calls k A c d 0 w1 (Kd.C_below (Kd.F_now HD.out) HB1.out) HDC.out HCK.out).mono ?_
      rintro e w2 ⟨rfl, hb⟩
      have HB2 := Aside0.mk (HB1.out.trans (hb.mono HB1.out.size))
      clear hb HB1
      have g0 := (HB2.out.cell (World.block_lt_of_cell? w _ h0)).trans h0
      have p := eq_true CC.out.1
      have q := eq_true CC.out.2
      obtain ⟨ad, A0, c0', rfl, hc, hle, hF⟩ := HH.out.dom i CC.out.1 CC.out.2
      have gc := (HB2.out.cell (World.block_lt_of_cell? w _ hc)).trans hc
      have HF := Aside0.mk hF
      have HLE := Aside0.mk hle
      clear hle hF
      go_wp2_with fail
      refine (dom_Minus.calls k A c d A0 c0' (rd_L3 L i) m w2 (Kd.C_below (Kd.F_now HD.out) HB2.out) HDC.out (Kd.C_below (Kd.F_now HF.out) HB2.out) HLE.out HMI.out).mono ?_
      rintro e w3 ⟨v, rfl, hR, hb⟩
      obtain ⟨A3, c3, rfl⟩ := Kd.R_slice hR
      have HB3 := Aside0.mk (HB2.out.trans (hb.mono HB2.out.size))
      clear hb hR
      by_cases cm : (m.length : Int) > 0
      · have hr := HR.out
        rw [if_pos cm] at hr
        cases hr
        have cm1 : decide ((m.length : Int) > 0) = true := decide_eq_true cm
        have cm2 : decide (0 < (m.length : Int)) = true := decide_eq_true cm
        have cm3 : decide (0 < m.length) = true := decide_eq_true (by omega)
        clear cm HR
        go_wp2
        go_ret
        exact ⟨rfl, QQ.out _ HB3.out⟩
      · have hr := HR.out
        rw [if_neg cm] at hr
        replace hr := Option.bind_eq_some_iff.mp hr
        obtain ⟨b, hsa, hr⟩ := hr
        have HSA := Aside0.mk hsa
        have HR2 := Aside0.mk hr
        have cm1 : decide ((m.length : Int) > 0) = false := decide_eq_false cm
        have cm2 : decide (0 < (m.length : Int)) = false := decide_eq_false cm
        have cm3 : decide (0 < m.length) = false := decide_eq_false (by omega)
        clear cm HR hr hsa gc g0
        have g0 := (HB3.out.cell (World.block_lt_of_cell? w _ h0)).trans h0
        have gc := (HB3.out.cell (World.block_lt_of_cell? w _ hc)).trans hc
        go_wp2_with fail
        refine (dom_Same.calls k A c d A0 c0' (rd_L3 L i) b w3 (Kd.C_below (Kd.F_now HD.out) HB3.out) HDC.out (Kd.C_below (Kd.F_now HF.out) HB3.out) HLE.out HSA.out).mono ?_
        rintro e w4 ⟨rfl, hb⟩
        have HB4 := Aside0.mk (HB3.out.trans (hb.below.mono HB3.out.size))
        clear hb g0 gc
        have hr := HR2.out
        cases b with
        | true =>
          rw [if_pos rfl] at hr
          cases hr
          go_wp2
          go_ret
          exact ⟨rfl, QQ.out _ HB4.out⟩
        | false =>
          rw [if_neg (by simp)] at hr
          cases hr
          have HH4 := Aside0.mk (HH.out.below HB4.out)
          obtain ⟨g0, g1, _⟩ := HH4.out.cells
          have gc := (HB4.out.cell (World.block_lt_of_cell? w _ hc)).trans hc
          have k0 : ∀ o : Obj, (w4.alloc o).cell? ⟨g, 0, none⟩ = some (.slice (some ad) L.length cl) := fun o => (World.cell?_alloc_lt _ _ _ HH4.out.lt.1).trans g0
          have k1 : ∀ o : Obj, (w4.alloc o).cell? ⟨g, 1, none⟩ = some (.slice Ac C.length cc) := fun o => (World.cell?_alloc_lt _ _ _ HH4.out.lt.1).trans g1
          have kc : ∀ o : Obj, (w4.alloc o).cell? (ad.add i.toNat) = some (.slice A0 (rd_L3 L i).length c0') := fun o => (World.cell?_alloc_lt _ _ _ (World.block_lt_of_cell? w4 _ gc)).trans gc
          have HF4 := Aside0.mk (Kd.F_below (Kd.F_below HF.out HB4.out) (below_drew (Below.refl w4.heap.size w4)))
          have HBW := Aside0.mk (HB.out.trans (HB4.out.mono HS.out))
          have HSW := Aside0.mk (Nat.le_trans HS.out HB4.out.size)
          have HFR := Aside0.mk (show ∀ k, w4.heap.size ≤ k → (T k ∨ w4.heap.size ≤ k) ∧ k ≠ g ∧ some k ≠ (Value.slice (some ad) L.length cl).ownBlock ∧ some k ≠ (Value.slice Am M.length cm).ownBlock from fun k hk => ⟨.inr hk, fun e => absurd HH4.out.lt.1 (by rw [← e]; exact Nat.not_lt.2 hk), fun e => absurd (HH4.out.lt.2.1 k e.symm) (Nat.not_lt.2 hk), fun e => absurd (HH4.out.lt.2.2.2 k e.symm) (Nat.not_lt.2 hk)⟩)
          clear h0 h1 hc cm1 cm2 cm3 HR2
          go_wp2_with fail
          go_region_law (
            refine Kd.N_append_step k67 (w0 := w0) (W := w4.drew) base (by rfl) (.tmp 46) (.tmp 57) 37 67 (.agg #[.int .i64 0, .slice none 0 0]) 32 rfl Try.underlying37 info67 rfl (by decide) (by omega) (.slice Ac C.length cc) C ⟨i, rd_L3 L i⟩ [.int .i64 i, .slice A0 (rd_L3 L i).length c0'] (fun k => (T k ∨ w4.heap.size ≤ k) ∧ k ≠ g ∧ some k ≠ (Value.slice (some ad) L.length cl).ownBlock ∧ some k ≠ (Value.slice Am M.length cm).ownBlock) (fun k => T k ∧ k ≠ g ∧ some k ≠ (Value.slice (some ad) L.length cl).ownBlock ∧ some k ≠ (Value.slice Ac C.length cc).ownBlock ∧ some k ≠ (Value.slice Am M.length cm).ownBlock) rfl rfl ?aP (fun k hk => ⟨⟨.inl hk.1, hk.2.1, hk.2.2.1, hk.2.2.2.2⟩, hk.2.2.2.1⟩) HFR.out ?aO (below_drew HBW.out) HSW.out ?aL ?_
            (case aP => exact fun W' hW => k67_mk W' ⟨i, rd_L3 L i⟩ HLE.out (HF4.out W' hW))
            (case aO => exact Kd.N_drew (Kd.N_mono HH4.out.c (fun k hk => ⟨.inl hk.1, hk.2⟩)))
            (case aL => have := HL.out; omega)
            intro v1 w5 ho hb hg hat
            have hs1 := StV.s_after (HH4.out.below (below_drew (Below.refl _ _))) hg (fun k e => (HH4.out.own.2.2.1 k e).2.1)
            have hc1 := (raw_cells hs1).2.1
            have hf1 := raw_free hs1 1
            obtain ⟨A1, c1, rfl⟩ := Kd.N_slice ho
            have HO := Aside0.mk ho
            have HB5 := Aside0.mk hb
            have HG := Aside0.mk hg
            have HA := Aside0.mk hat
            have HS1 := Aside0.mk hs1
            clear ho hb hg hat hs1)
          all_goals
            obtain ⟨hs2, hg2⟩ := raw_set HS1.out 1 (by omega) (u := .slice A1 (C.length + 1) c1) rfl
            have e1 : (C ++ [(⟨i, rd_L3 L i⟩ : S67)]).length = C.length + 1 := by simp
            have hO := HO.out
            have hA := HA.out
            rw [e1] at hO hA
            obtain ⟨hst, hk⟩ := StV.changed (HH4.out.below (below_drew (Below.refl _ _))) hO HG.out hA hs2 hg2
            have hbs := HB5.out.grown hg2 (Nat.le_trans HSW.out HG.out.size) (fun k e => by cases e; exact Kd.R_base HS1.out g (one_own g))
            have hd6 := Kd.F_kept (Kd.F_below (Kd.F_below HD.out HB4.out) (below_drew (Below.refl w4.heap.size w4))) hk HAP.out
            obtain ⟨w6, hw6⟩ : ∃ w6, w6 = w5.setCell { block := g, off := 1 } (Value.slice A1 (C.length + 1) c1) := ⟨_, rfl⟩
            rw [← hw6] at hst hk hbs hd6 ⊢
            obtain ⟨gl, capl, hgl, hgb, hgs, _⟩ := Kd.N_form hst.l (by have := CC.out; omega)
            cases hgl
            have hz : w6.cell? ⟨g, 0, none⟩ = some (.slice (some ⟨gl, 0, none⟩) L.length cl) := hst.cells.1
            have HST := Aside0.mk hst
            have HK6 := Aside0.mk hk
            have HB6 := Aside0.mk hbs
            have HD6 := Aside0.mk (Kd.F_now (Kd.F_below hd6 (below_drew (Below.refl w6.heap.size w6))))
            have p := eq_true CC.out.1
            have q := eq_true CC.out.2
            clear hs2 hg2 e1 hO hA hst hk hbs hd6 hw6 HS1 HO HB5 HG HA hc1 hf1 k0 k1 kc gc g0 g1
            go_wp2_with fail
            go_region_with (
              go_at_call 33
              refine (clone_r A c d w6.drew HD6.out (by have := HDL.out; omega)).mono ?_
              rintro e w7 ⟨v, rfl, hN7, hb7⟩
              obtain ⟨A7, c7, rfl⟩ := Kd.N_slice hN7
              have hz7 := (hb7.cell (World.block_lt_of_cell? w6.drew _ hz)).trans hz
              obtain ⟨⟨u7, hu7⟩, hf7⟩ := StV.dom_cell ((HST.out.below (below_drew (Below.refl _ _))).below hb7) i CC.out.1 CC.out.2
              have HN7 := Aside0.mk hN7
              have HB7 := Aside0.mk hb7
              clear hN7 hb7)
            all_goals
              go_wp2_with fail
              go_ret
              have s4 := HB4.out.size
              have s6 : w4.heap.size ≤ w6.heap.size := HK6.out.1
              have h7 := ((HST.out.below (below_drew (Below.refl _ _))).below HB7.out).mono (T' := fun k => T k ∨ w.heap.size ≤ k) (fun k hk => hk.imp id (fun hk => Nat.le_trans s4 hk))
              obtain ⟨hl1, hl2, hl3, hl4⟩ := HST.out.lt
              obtain ⟨hp1, hp2, hp3⟩ := h7.put_dom i CC.out.1 CC.out.2 (okx := fun k => w6.heap.size ≤ k) (FK_of_N HN7.out) (fun k hk => ⟨⟨.inr (Nat.le_trans (Nat.le_trans s4 s6) hk), fun e => absurd hl1 (by rw [← e]; exact Nat.not_lt.2 hk), fun e => absurd (hl3 k e.symm) (Nat.not_lt.2 hk), fun e => absurd (hl4 k e.symm) (Nat.not_lt.2 hk)⟩, fun e => absurd (hl2 gl (by simp [Value.ownBlock])) (by rw [← e]; exact Nat.not_lt.2 hk)⟩)
              have hgl := (HST.out.own.2.1 gl (by simp [Value.ownBlock])).1
              refine ⟨rfl, ⟨_, _, _, hp1⟩, ?_, ?_⟩
              · exact ((below_drew HB6.out).trans (HB7.out.mono (Nat.le_trans HSW.out s6))).grown hp3 (Nat.le_trans (Nat.le_trans HSW.out s6) HB7.out.size) (fun k e => by cases e; exact Kd.N_base h7.l gl (by simp [Value.ownBlock]))
              · exact Kept.of_grown hp3 (Kept.below (Kept.drew (Kept.then_ (Kept.of_below HB4.out T) HK6.out (fun k hk => .inl hk))) HB7.out) (fun k e => by cases e; exact hgl.imp id (fun hk => Nat.le_trans s4 hk))
    · rw [if_neg ce] at hr
      have ce1 : (e0 == 0) = false := beq_eq_false_iff_ne.mpr ce
      have ce2 : (e0 != 0) = true := bne_iff_ne.mpr ce
      cases hr
      clear ce c0 h0 h1 h2
      go_enter Try.func14, Try.ntmps14
      go_wp2_with fail
      refine (is_calls i ⟨_, _, _, HH.out⟩).mono ?_
      rintro e w1 ⟨rfl, hb⟩
      rw [HD0.out]
      have HB1 := Aside0.mk hb
      clear hb
      go_wp2_with fail
      refine (dom_Check.calls k A c d _ w1 (Kd.C_below (Kd.F_now HD.out) HB1.out) HDC.out HCK.out).mono ?_
      rintro e w2 ⟨rfl, hb⟩
      have HB2 := Aside0.mk (HB1.out.trans (hb.mono HB1.out.size))
      clear hb HB1
      go_wp2
      go_ret
      exact ⟨rfl, QQ.out _ HB2.out⟩
  · have hd0 : decide (0 ≤ i ∧ i < L.length) = false := decide_eq_false c0
    have HD0 := Aside0.mk hd0
    rw [if_neg c0] at hr
    cases hr
    clear hd0 c0 h0 h1 h2
    go_enter Try.func14, Try.ntmps14
    go_wp2_with fail
    refine (is_calls i ⟨_, _, _, HH.out⟩).mono ?_
    rintro e w1 ⟨rfl, hb⟩
    rw [HD0.out]
    have HB1 := Aside0.mk hb
    clear hb
    go_wp2
    go_ret
    exact ⟨rfl, QQ.out _ HB1.out⟩
end
end Go.Proofs.Ytcjachhdoogbaaa.PT
