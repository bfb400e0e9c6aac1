/- Set and Back once more, with what they write told apart from what they read: U, the store's own block and its rows' blocks. No conditions but the lengths' bounds. -/
import Derived.Test.YtcjachhdoogbaaaTBack
import Derived.Deep.QuietTactic
import Derived.BigQuiet
import Derived.IntWalk
set_option linter.unusedVariables false
set_option linter.unusedSimpArgs false
namespace Go.Proofs.Ytcjachhdoogbaaa.PT
open Go.RowKit Go.Proofs.YtcjachhdoogbaaaW.PrintWords Go.Proofs.YtcjachhdoogbaaaW.PrintLast Go.Proofs.YtcjachhdoogbaaaW.PrintMore
/-- The blocks that a store's calls write. -/
def MutU (U : Nat → Prop) (g : Nat) (lv cv mv : Value) : Prop := U g ∧ (∀ k, lv.ownBlock = some k → U k) ∧ (∀ k, cv.ownBlock = some k → U k) ∧ ∀ k, mv.ownBlock = some k → U k
def StU (T U : Nat → Prop) (w : World) (base g : Nat) (L : List (List S62)) (C : List S67) (M : List Int) : Prop := ∃ lv cv mv, StV T w base g lv cv mv L C M ∧ MutU U g lv cv mv
section
variable {T U : Nat → Prop} {w0 w w1 w2 : World} {base g : Nat} {lv cv mv : Value} {L : List (List S62)} {C : List S67} {M : List Int}
set_option maxRecDepth 100000
set_option maxHeartbeats 4000000
theorem set_callsU (k : Nat) (i : Int) (A : Option Addr) (c : Nat) (d : List S62) (okd : Nat → Prop) (L' : List (List S62)) (C' : List S67) (r : Int) (h : StU T U w base g L C M) (hB : Below base w0 w) (hbase : base ≤ w.heap.size)
    (hd : Kd.F k62 w okd A d.length d) (hap : ∀ k, okd k → ¬ U k) (hdc : d.length ≤ c) (hC : C.length ≤ 1000000) (hdl : d.length ≤ 1000000) (hr : setS k L C i d = some (L', C', r)) :
    Calls Try.prog 14 #[.pointer (some ⟨g, 0, none⟩), .int .i64 i, .slice A d.length c] w fun e w' =>
      e = .returned (.int .i64 r) ∧ St (fun k => T k ∨ w.heap.size ≤ k) w' base g L' C' M ∧ Below base w0 w' ∧ Kept w w' U := by
  obtain ⟨lv, cv, mv, h, hU⟩ := h
  obtain ⟨⟨Al, cl, rfl, _⟩, ⟨Ac, cc, rfl, _⟩, Am, cm, rfl, _⟩ := h.forms
  have HU := Aside0.mk hU
  clear hU
  obtain ⟨h0, h1, h2⟩ := h.cells
  have HH := Aside0.mk h
  have HL := Aside0.mk hC
  have HDL := Aside0.mk hdl
  have HB := Aside0.mk hB
  have HS := Aside0.mk hbase
  have HD := Aside0.mk hd
  have HAP := Aside0.mk hap
  have HDC := Aside0.mk hdc
  have quiet : ∀ w', Below w.heap.size w w' → St (fun k => T k ∨ w.heap.size ≤ k) w' base g L C M ∧ Below base w0 w' ∧ Kept w w' U := fun w' hb =>
    ⟨St.mono ⟨_, _, _, HH.out.below hb⟩ (fun k hk => .inl hk), HB.out.trans (hb.mono HS.out), Kept.of_below hb U⟩
  have QQ := Aside0.mk quiet
  clear h hC hdl hB hbase hd hap hdc quiet
  unfold setS at hr
  by_cases c0 : 0 ≤ i ∧ i < L.length
  · rw [if_pos c0] at hr
    replace hr := Option.bind_eq_some_iff.mp hr
    obtain ⟨e0, hck, hr⟩ := hr
    have hd0 : decide (0 ≤ i ∧ i < L.length) = true := decide_eq_true c0
    have HD0 := Aside0.mk hd0
    have HCK := Aside0.mk hck
    have CC := Aside0.mk c0
    clear hd0 hck
    by_cases ce : e0 = 0
    · rw [if_pos ce] at hr
      replace hr := Option.bind_eq_some_iff.mp hr
      obtain ⟨m, hmi, hr⟩ := hr
      have HMI := Aside0.mk hmi
      have HR := Aside0.mk hr
      subst ce
      clear hmi hr c0 h2
      go_enter Try.func14, Try.ntmps14
      go_wp2_with fail
      refine (is_calls i ⟨_, _, _, HH.out⟩).mono ?_
      rintro e w1 ⟨rfl, hb⟩
      rw [HD0.out]
      have HB1 := Aside0.mk hb
      clear hb
      go_wp2_with fail
      refine (dom_Check.calls k A c d 0 w1 (Kd.C_below (Kd.F_now HD.out) HB1.out) HDC.out HCK.out).mono ?_
      rintro e w2 ⟨rfl, hb⟩
      have HB2 := Aside0.mk (HB1.out.trans (hb.mono HB1.out.size))
      clear hb HB1
      have g0 := (HB2.out.cell (World.block_lt_of_cell? w _ h0)).trans h0
      have p := eq_true CC.out.1
      have q := eq_true CC.out.2
      obtain ⟨ad, A0, c0', rfl, hc, hle, hF⟩ := HH.out.dom i CC.out.1 CC.out.2
      have gc := (HB2.out.cell (World.block_lt_of_cell? w _ hc)).trans hc
      have HF := Aside0.mk hF
      have HLE := Aside0.mk hle
      clear hle hF
      go_wp2_with fail
      refine (dom_Minus.calls k A c d A0 c0' (rd_L3 L i) m w2 (Kd.C_below (Kd.F_now HD.out) HB2.out) HDC.out (Kd.C_below (Kd.F_now HF.out) HB2.out) HLE.out HMI.out).mono ?_
      rintro e w3 ⟨v, rfl, hR, hb⟩
      obtain ⟨A3, c3, rfl⟩ := Kd.R_slice hR
      have HB3 := Aside0.mk (HB2.out.trans (hb.mono HB2.out.size))
      clear hb hR
      by_cases cm : (m.length : Int) > 0
      · have hr := HR.out
        rw [if_pos cm] at hr
        cases hr
        have cm1 : decide ((m.length : Int) > 0) = true := decide_eq_true cm
        have cm2 : decide (0 < (m.length : Int)) = true := decide_eq_true cm
        have cm3 : decide (0 < m.length) = true := decide_eq_true (by omega)
        clear cm HR
        go_wp2
        go_ret
        exact ⟨rfl, QQ.out _ HB3.out⟩
      · have hr := HR.out
        rw [if_neg cm] at hr
        replace hr := Option.bind_eq_some_iff.mp hr
        obtain ⟨b, hsa, hr⟩ := hr
        have HSA := Aside0.mk hsa
        have HR2 := Aside0.mk hr
        have cm1 : decide ((m.length : Int) > 0) = false := decide_eq_false cm
        have cm2 : decide (0 < (m.length : Int)) = false := decide_eq_false cm
        have cm3 : decide (0 < m.length) = false := decide_eq_false (by omega)
        clear cm HR hr hsa gc g0
        have g0 := (HB3.out.cell (World.block_lt_of_cell? w _ h0)).trans h0
        have gc := (HB3.out.cell (World.block_lt_of_cell? w _ hc)).trans hc
        go_wp2_with fail
        refine (dom_Same.calls k A c d A0 c0' (rd_L3 L i) b w3 (Kd.C_below (Kd.F_now HD.out) HB3.out) HDC.out (Kd.C_below (Kd.F_now HF.out) HB3.out) HLE.out HSA.out).mono ?_
        rintro e w4 ⟨rfl, hb⟩
        have HB4 := Aside0.mk (HB3.out.trans (hb.below.mono HB3.out.size))
        clear hb g0 gc
        have hr := HR2.out
        cases b with
        | true =>
          rw [if_pos rfl] at hr
          cases hr
          go_wp2
          go_ret
          exact ⟨rfl, QQ.out _ HB4.out⟩
        | false =>
          rw [if_neg (by simp)] at hr
          cases hr
          have HH4 := Aside0.mk (HH.out.below HB4.out)
          obtain ⟨g0, g1, _⟩ := HH4.out.cells
          have gc := (HB4.out.cell (World.block_lt_of_cell? w _ hc)).trans hc
          have k0 : ∀ o : Obj, (w4.alloc o).cell? ⟨g, 0, none⟩ = some (.slice (some ad) L.length cl) := fun o => (World.cell?_alloc_lt _ _ _ HH4.out.lt.1).trans g0
          have k1 : ∀ o : Obj, (w4.alloc o).cell? ⟨g, 1, none⟩ = some (.slice Ac C.length cc) := fun o => (World.cell?_alloc_lt _ _ _ HH4.out.lt.1).trans g1
          have kc : ∀ o : Obj, (w4.alloc o).cell? (ad.add i.toNat) = some (.slice A0 (rd_L3 L i).length c0') := fun o => (World.cell?_alloc_lt _ _ _ (World.block_lt_of_cell? w4 _ gc)).trans gc
          have HF4 := Aside0.mk (Kd.F_below (Kd.F_below HF.out HB4.out) (below_drew (Below.refl w4.heap.size w4)))
          have HBW := Aside0.mk (HB.out.trans (HB4.out.mono HS.out))
          have HSW := Aside0.mk (Nat.le_trans HS.out HB4.out.size)
          have HFR := Aside0.mk (show ∀ k, w4.heap.size ≤ k → (T k ∨ w4.heap.size ≤ k) ∧ k ≠ g ∧ some k ≠ (Value.slice (some ad) L.length cl).ownBlock ∧ some k ≠ (Value.slice Am M.length cm).ownBlock from fun k hk => ⟨.inr hk, fun e => absurd HH4.out.lt.1 (by rw [← e]; exact Nat.not_lt.2 hk), fun e => absurd (HH4.out.lt.2.1 k e.symm) (Nat.not_lt.2 hk), fun e => absurd (HH4.out.lt.2.2.2 k e.symm) (Nat.not_lt.2 hk)⟩)
          clear h0 h1 hc cm1 cm2 cm3 HR2
          go_wp2_with fail
          go_region_law (
            refine Kd.N_append_step k67 (w0 := w0) (W := w4.drew) base (by rfl) (.tmp 46) (.tmp 57) 37 67 (.agg #[.int .i64 0, .slice none 0 0]) 32 rfl Try.underlying37 info67 rfl (by decide) (by omega) (.slice Ac C.length cc) C ⟨i, rd_L3 L i⟩ [.int .i64 i, .slice A0 (rd_L3 L i).length c0'] (fun k => (T k ∨ w4.heap.size ≤ k) ∧ k ≠ g ∧ some k ≠ (Value.slice (some ad) L.length cl).ownBlock ∧ some k ≠ (Value.slice Am M.length cm).ownBlock) (fun k => T k ∧ k ≠ g ∧ some k ≠ (Value.slice (some ad) L.length cl).ownBlock ∧ some k ≠ (Value.slice Ac C.length cc).ownBlock ∧ some k ≠ (Value.slice Am M.length cm).ownBlock) rfl rfl ?aP (fun k hk => ⟨⟨.inl hk.1, hk.2.1, hk.2.2.1, hk.2.2.2.2⟩, hk.2.2.2.1⟩) HFR.out ?aO (below_drew HBW.out) HSW.out ?aL ?_
            (case aP => exact fun W' hW => k67_mk W' ⟨i, rd_L3 L i⟩ HLE.out (HF4.out W' hW))
            (case aO => exact Kd.N_drew (Kd.N_mono HH4.out.c (fun k hk => ⟨.inl hk.1, hk.2⟩)))
            (case aL => have := HL.out; omega)
            intro v1 w5 ho hb hg hat
            have hs1 := StV.s_after (HH4.out.below (below_drew (Below.refl _ _))) hg (fun k e => (HH4.out.own.2.2.1 k e).2.1)
            have hc1 := (raw_cells hs1).2.1
            have hf1 := raw_free hs1 1
            obtain ⟨A1, c1, rfl⟩ := Kd.N_slice ho
            have HO := Aside0.mk ho
            have HB5 := Aside0.mk hb
            have HG := Aside0.mk hg
            have HA := Aside0.mk hat
            have HS1 := Aside0.mk hs1
            clear ho hb hg hat hs1)
          all_goals
            obtain ⟨hs2, hg2⟩ := raw_set HS1.out 1 (by omega) (u := .slice A1 (C.length + 1) c1) rfl
            have e1 : (C ++ [(⟨i, rd_L3 L i⟩ : S67)]).length = C.length + 1 := by simp
            have hO := HO.out
            have hA := HA.out
            rw [e1] at hO hA
            obtain ⟨hst, _⟩ := StV.changed (HH4.out.below (below_drew (Below.refl _ _))) hO HG.out hA hs2 hg2
            have hk : Kept w4.drew (w5.setCell { block := g, off := 1 } (Value.slice A1 (C.length + 1) c1)) U := Kept.of_grown hg2 (Kept.of_grown HG.out (Kept.refl _ U) (fun k hk => .inl (HU.out.2.2.1 k hk))) (fun k hk => .inl (by cases hk; exact HU.out.1))
            have hbs := HB5.out.grown hg2 (Nat.le_trans HSW.out HG.out.size) (fun k e => by cases e; exact Kd.R_base HS1.out g (one_own g))
            have hd6 := Kd.F_kept (Kd.F_below (Kd.F_below HD.out HB4.out) (below_drew (Below.refl w4.heap.size w4))) hk HAP.out
            obtain ⟨w6, hw6⟩ : ∃ w6, w6 = w5.setCell { block := g, off := 1 } (Value.slice A1 (C.length + 1) c1) := ⟨_, rfl⟩
            rw [← hw6] at hst hk hbs hd6 ⊢
            obtain ⟨gl, capl, hgl, hgb, hgs, _⟩ := Kd.N_form hst.l (by have := CC.out; omega)
            cases hgl
            have hz : w6.cell? ⟨g, 0, none⟩ = some (.slice (some ⟨gl, 0, none⟩) L.length cl) := hst.cells.1
            have HST := Aside0.mk hst
            have HK6 := Aside0.mk hk
            have HB6 := Aside0.mk hbs
            have HD6 := Aside0.mk (Kd.F_now (Kd.F_below hd6 (below_drew (Below.refl w6.heap.size w6))))
            have p := eq_true CC.out.1
            have q := eq_true CC.out.2
            clear hs2 hg2 e1 hO hA hst hk hbs hd6 hw6 HS1 HO HB5 HG HA hc1 hf1 k0 k1 kc gc g0 g1
            go_wp2_with fail
            go_region_with (
              go_at_call 33
              refine (clone_r A c d w6.drew HD6.out (by have := HDL.out; omega)).mono ?_
              rintro e w7 ⟨v, rfl, hN7, hb7⟩
              obtain ⟨A7, c7, rfl⟩ := Kd.N_slice hN7
              have hz7 := (hb7.cell (World.block_lt_of_cell? w6.drew _ hz)).trans hz
              obtain ⟨⟨u7, hu7⟩, hf7⟩ := StV.dom_cell ((HST.out.below (below_drew (Below.refl _ _))).below hb7) i CC.out.1 CC.out.2
              have HN7 := Aside0.mk hN7
              have HB7 := Aside0.mk hb7
              clear hN7 hb7)
            all_goals
              go_wp2_with fail
              go_ret
              have s4 := HB4.out.size
              have s6 : w4.heap.size ≤ w6.heap.size := HK6.out.1
              have h7 := ((HST.out.below (below_drew (Below.refl _ _))).below HB7.out).mono (T' := fun k => T k ∨ w.heap.size ≤ k) (fun k hk => hk.imp id (fun hk => Nat.le_trans s4 hk))
              obtain ⟨hl1, hl2, hl3, hl4⟩ := HST.out.lt
              obtain ⟨hp1, hp2, hp3⟩ := h7.put_dom i CC.out.1 CC.out.2 (okx := fun k => w6.heap.size ≤ k) (FK_of_N HN7.out) (fun k hk => ⟨⟨.inr (Nat.le_trans (Nat.le_trans s4 s6) hk), fun e => absurd hl1 (by rw [← e]; exact Nat.not_lt.2 hk), fun e => absurd (hl3 k e.symm) (Nat.not_lt.2 hk), fun e => absurd (hl4 k e.symm) (Nat.not_lt.2 hk)⟩, fun e => absurd (hl2 gl (by simp [Value.ownBlock])) (by rw [← e]; exact Nat.not_lt.2 hk)⟩)
              refine ⟨rfl, ⟨_, _, _, hp1⟩, ?_, ?_⟩
              · exact ((below_drew HB6.out).trans (HB7.out.mono (Nat.le_trans HSW.out s6))).grown hp3 (Nat.le_trans (Nat.le_trans HSW.out s6) HB7.out.size) (fun k e => by cases e; exact Kd.N_base h7.l gl (by simp [Value.ownBlock]))
              · exact Kept.of_grown hp3 (Kept.below (Kept.drew (Kept.then_ (Kept.of_below HB4.out U) HK6.out (fun k hk => .inl hk))) HB7.out) (fun k e => by cases e; exact .inl (HU.out.2.1 gl (by simp [Value.ownBlock])))
    · rw [if_neg ce] at hr
      have ce1 : (e0 == 0) = false := beq_eq_false_iff_ne.mpr ce
      have ce2 : (e0 != 0) = true := bne_iff_ne.mpr ce
      cases hr
      clear ce c0 h0 h1 h2
      go_enter Try.func14, Try.ntmps14
      go_wp2_with fail
      refine (is_calls i ⟨_, _, _, HH.out⟩).mono ?_
      rintro e w1 ⟨rfl, hb⟩
      rw [HD0.out]
      have HB1 := Aside0.mk hb
      clear hb
      go_wp2_with fail
      refine (dom_Check.calls k A c d _ w1 (Kd.C_below (Kd.F_now HD.out) HB1.out) HDC.out HCK.out).mono ?_
      rintro e w2 ⟨rfl, hb⟩
      have HB2 := Aside0.mk (HB1.out.trans (hb.mono HB1.out.size))
      clear hb HB1
      go_wp2
      go_ret
      exact ⟨rfl, QQ.out _ HB2.out⟩
  · have hd0 : decide (0 ≤ i ∧ i < L.length) = false := decide_eq_false c0
    have HD0 := Aside0.mk hd0
    rw [if_neg c0] at hr
    cases hr
    clear hd0 c0 h0 h1 h2
    go_enter Try.func14, Try.ntmps14
    go_wp2_with fail
    refine (is_calls i ⟨_, _, _, HH.out⟩).mono ?_
    rintro e w1 ⟨rfl, hb⟩
    rw [HD0.out]
    have HB1 := Aside0.mk hb
    clear hb
    go_wp2
    go_ret
    exact ⟨rfl, QQ.out _ HB1.out⟩
theorem back_callsU (m : Int) (h : StU T U w base g L C (M ++ [m])) (hB : Below base w0 w) (hbase : base ≤ w.heap.size) (hm : 0 ≤ m) (hC : ∀ c ∈ C, 0 ≤ c.f0 ∧ c.f0 < L.length) (hbig : M.length ≤ 1000000 ∧ C.length ≤ 1000000) :
    Calls Try.prog 25 #[.pointer (some ⟨g, 0, none⟩)] w fun e w' => e = .returned (.int .i64 0) ∧ StU (fun k => T k ∨ w.heap.size ≤ k) U w' base g (undo L C m.toNat) (C.take m.toNat) M ∧ Below base w0 w' ∧ Kept w w' U := by
  obtain ⟨lv, cv, mv, h, hU⟩ := h
  obtain ⟨⟨Al, cl, rfl, _⟩, ⟨Ac, cc, rfl, _⟩, Am, cm, rfl, _⟩ := h.forms
  have HU := Aside0.mk hU
  clear hU
  obtain ⟨h0, h1, h2⟩ := h.cells
  obtain ⟨n, hn⟩ : ∃ n, n = (M ++ [m]).length := ⟨_, rfl⟩
  rw [← hn] at h2 h
  have hn1 : n = M.length + 1 := by rw [hn]; simp
  obtain ⟨gm, hgm, hmk⟩ := h.mark ((n : Int) - 1) (by omega) (by omega)
  cases hgm
  have e1 : ((n : Int) - 1).toNat = M.length := by omega
  have e2 : (M ++ [m]).getD M.length 0 = m := by simp [List.getD_eq_getElem?_getD]
  rw [e1, e2] at hmk
  have q0 : ((n : Int) == 0) = false := by rw [beq_eq_false_iff_ne]; omega
  have q1 : (n == 0) = false := by rw [beq_eq_false_iff_ne]; omega
  have q2 : decide (n = 0) = false := decide_eq_false (by omega)
  have HN := Aside0.mk hn1
  have HH := Aside0.mk h
  have HB := Aside0.mk hB
  have HS := Aside0.mk hbase
  have HM := Aside0.mk hm
  have HC := Aside0.mk hC
  have HG := Aside0.mk hbig
  have HK := Aside0.mk hmk
  have HE := Aside0.mk e1
  clear h h0 h1 hn hn1 hB hbase hm hC hbig hmk e1 e2
  go_enter Try.func25, Try.ntmps25
  go_wp2_with fail
  go_loopg [4] C.length (fun j v4 wr => Aside0 ((j ≤ C.length ∧ (undo L C j).length = L.length) ∧ (m.toNat ≤ j ∨ j = C.length)) ∧ Aside0 (StV (fun k => T k ∨ w.heap.size ≤ k) wr base g (.slice Al L.length cl) (.slice Ac j cc) (.slice (some ⟨gm, 0, none⟩) n cm) (undo L C j) (C.take j) (M ++ [m])) ∧ Aside0 (Below base w0 wr) ∧ Aside0 (Kept w wr U))
  case atStart => exact ⟨⟨⟨Nat.le_refl _, undo_len _ _⟩, .inr rfl⟩, ⟨by rw [undo_all, List.take_length]; exact HH.out.mono (fun k hk => .inl hk)⟩, HB, ⟨Kept.refl _ _⟩⟩
  case round =>
    obtain ⟨HJ, HST, HBR, HKR⟩ := hrel
    obtain ⟨g0, g1, g2⟩ := HST.out.cells
    obtain ⟨t, ht⟩ : ∃ t, t = M.length := ⟨_, rfl⟩
    obtain ⟨gm', hgm', hmk⟩ := HST.out.mark (t : Int) (by omega) (by have := HN.out; omega)
    cases hgm'
    have e2 : (M ++ [m]).getD (t : Int).toNat 0 = m := by rw [Int.toNat_natCast, ht]; simp [List.getD_eq_getElem?_getD]
    rw [e2, Int.toNat_natCast] at hmk
    have HT := Aside0.mk ht
    have hw : IntKind.i64.wrap ((n : Int) - 1) = (t : Int) := by rw [IntWalk.i64_in _ (by have := HN.out; have := HG.out; omega)]; have := HN.out; omega
    have hw2 : wrap64 ((n : Int) - 1) = (t : Int) := by rw [wrap_id _ (by have := HN.out; have := HG.out; omega)]; have := HN.out; omega
    have hlt := eq_true (show (t : Int) < (n : Int) by have := HN.out; omega)
    have hlt2 := eq_true (show t < n by have := HN.out; omega)
    clear ht e2 h2
    go_wp2_with fail
    go_quiet (fail)
    obtain ⟨i0, hi0, _, hsz, _⟩ := info_parts info3
    obtain ⟨i1, hi1, _, hsz1, _⟩ := info_parts info67
    by_cases hgk : m < (gk : Int)
    · have d1 : decide (m < (gk : Int)) = true := decide_eq_true hgk
      rw [d1]
      obtain ⟨j, hj⟩ : ∃ j, gk = j + 1 := ⟨gk - 1, by have := HM.out; omega⟩
      have hw3 : IntKind.i64.wrap ((gk : Int) - 1) = (j : Int) := by rw [IntWalk.i64_in _ (by have := HJ.out.1.1; have := HG.out; omega)]; omega
      have hw4 : wrap64 ((gk : Int) - 1) = (j : Int) := by rw [wrap_id _ (by have := HJ.out.1.1; have := HG.out; omega)]; omega
      have hj1 := eq_true (show (j : Int) < (gk : Int) by omega)
      have hj2 := eq_true (show j < gk by omega)
      obtain ⟨w5, hw5⟩ : ∃ w5, w5 = wr.drewN nq := ⟨_, rfl⟩
      have hst5 := HST.out.below (pw_below_drewN (Below.refl _ _) nq)
      have hb5 := pw_below_drewN HBR.out nq
      have hk5 := Kept.drewN HKR.out nq
      rw [← hw5] at hst5 hb5 hk5 ⊢
      obtain ⟨gc, A0, c0, hgc, e0, e1, hle, hF⟩ := hst5.change (j : Int) (by omega) (by omega)
      cases hgc
      rw [Int.toNat_natCast] at e0 e1
      have erd : rd_T67 (C.take gk) j = rd_T67 C j := by simp [rd_T67, List.getD_eq_getElem?_getD, List.getElem?_take, hj]
      rw [erd] at e0 e1 hle hF
      have ha0 : ∀ o : Obj, (w5.alloc o).cell? ⟨gc, j * 2, none⟩ = some (.int .i64 (rd_T67 C j).f0) := fun o => (World.cell?_alloc_lt _ _ _ (World.block_lt_of_cell? w5 _ e0)).trans e0
      have ha1 : ∀ o : Obj, (w5.alloc o).cell? ⟨gc, j * 2 + 1, none⟩ = some (.slice A0 (rd_T67 C j).f1.length c0) := fun o => (World.cell?_alloc_lt _ _ _ (World.block_lt_of_cell? w5 _ e1)).trans e1
      obtain ⟨g0, g1, g2⟩ := hst5.cells
      have hag : ∀ o : Obj, (w5.alloc o).cell? ⟨g, 1, none⟩ = some (.slice (some ⟨gc, 0, none⟩) gk cc) := fun o => (World.cell?_alloc_lt _ _ _ (World.block_lt_of_cell? w5 _ g1)).trans g1
      have HST5 := Aside0.mk hst5
      have HB5 := Aside0.mk hb5
      have HK5 := Aside0.mk hk5
      have HF5 := Aside0.mk hF
      have HLE := Aside0.mk hle
      have HJJ := Aside0.mk hj
      clear hst5 hb5 hk5 hF hle hj hw5 erd hgk HST HBR HKR hmk
      go_wp2_with fail
      go_cut [4] (fun v4 wc => ∃ cb, v4 = .pointer (some ⟨cb, 0, none⟩) ∧ Aside0 (w5.heap.size ≤ cb ∧ wc.cell? ⟨cb, 0, none⟩ = some (.int .i64 (rd_T67 C j).f0) ∧ wc.cell? ⟨cb, 1, none⟩ = some (.slice A0 (rd_T67 C j).f1.length c0)) ∧ Aside0 (Below w5.heap.size w5 wc))
      case first =>
        go_region
        all_goals
          go_wp2
          go_meet
          case rel =>
            have hn := heap_alloc_new w5 (.cells #[.int .i64 (rd_T67 C (j : Int)).f0, .slice A0 (rd_T67 C (j : Int)).f1.length c0] 67)
            exact ⟨w5.heap.size, rfl, ⟨Nat.le_refl _, cell_at hn 0, cell_at hn 1⟩, ⟨below_drew (below_alloc (Below.refl _ _) _)⟩⟩
      case rest =>
        obtain ⟨cb, rfl, HCB, HBC⟩ := hcut
        obtain ⟨wa, hwa⟩ : ∃ wa, wa = wc := ⟨wc, rfl⟩
        subst hwa
        have HST6 := Aside0.mk (HST5.out.below HBC.out)
        clear ha0 ha1 hag e0 e1 g0 g1 g2
        obtain ⟨g0, g1, g2⟩ := HST6.out.cells
        have hcut := cut_to (P := Try.prog) 37 67 .i64 Try.underlying37 hi1 (some ⟨gc, 0, none⟩) gk cc (j : Int) (by omega) (by have := HJJ.out; omega) (Kd.N_reads' HST6.out.c).2.1
        have hf := raw_free HST6.out.s 1
        go_wp2_with fail
        go_cut [4] (fun v4 wd => v4 = .pointer (some ⟨cb, 0, none⟩) ∧ Aside0 (wd = wa.drew.setCell ⟨g, 1, none⟩ (.slice (some ⟨gc, 0, none⟩) j cc)))
        case first =>
          go_region
          all_goals
            go_wp2
            go_meet
            case rel => exact ⟨rfl, ⟨rfl⟩⟩
        case rest =>
          obtain ⟨rfl, hwd⟩ := hcut
          obtain ⟨hs2, hg2⟩ := raw_set (w := wa.drew) (Kd.R_drew HST6.out.s) 1 (by omega) (u := .slice (some ⟨gc, 0, none⟩) j cc) rfl
          rw [← hwd.out] at hs2 hg2
          obtain ⟨h7, hk7⟩ := StV.cut (HST6.out.below (below_drew (Below.refl _ _))) (j := j) (by have := HJJ.out; have := HJ.out.1.1; rw [List.length_take]; omega) hs2 hg2
          have ett : (C.take gk).take j = C.take j := by have := HJJ.out; rw [List.take_take, Nat.min_eq_left (by omega)]
          rw [ett] at h7
          have hs6 : w5.heap.size ≤ wa.heap.size := HBC.out.size
          have hba : Below base w0 wa := HB5.out.trans (HBC.out.mono (Nat.le_trans HS.out HK5.out.1))
          have hbd : Below base w0 wc := (below_drew hba).grown hg2 (Nat.le_trans (Nat.le_trans HS.out HK5.out.1) hs6) (fun k e => by cases e; exact Kd.R_base HST6.out.s g (one_own g))
          have hkd : Kept w wc U := Kept.of_grown hg2 (Kept.drew (Kept.below HK5.out HBC.out)) (fun k e => by cases e; exact .inl HU.out.1)
          have hcbg : cb ≠ g := fun e => by have := HST5.out.lt.1; have := HCB.out.1; omega
          have hcc0 : wc.cell? ⟨cb, 0, none⟩ = some (.int .i64 (rd_T67 C (j : Int)).f0) := by
            rw [hwd.out, World.cell?_setCell_other _ _ _ _ (fun e => hcbg (congrArg Addr.block e).symm)]; exact HCB.out.2.1
          have hcc1 : wc.cell? ⟨cb, 1, none⟩ = some (.slice A0 (rd_T67 C (j : Int)).f1.length c0) := by
            rw [hwd.out, World.cell?_setCell_other _ _ _ _ (fun e => hcbg (congrArg Addr.block e).symm)]; exact HCB.out.2.2
          have hel := HC.out (rd_T67 C (j : Int)) (rd67_mem C j (by have h1 := HJJ.out; have h2 := HJ.out.1.1; omega))
          have hul := HJ.out.1.2
          obtain ⟨gl, capl, hgl, _⟩ := Kd.N_form h7.l (by omega)
          simp only [Value.slice.injEq] at hgl
          obtain ⟨rfl, _, rfl⟩ := hgl
          rw [← hul] at h7
          obtain ⟨⟨u7, hu7⟩, hf7⟩ := h7.dom_cell (rd_T67 C (j : Int)).f0 hel.1 (by omega)
          obtain ⟨l0, _, _⟩ := h7.cells
          rw [hul] at l0
          have p7 := eq_true hel.1
          have q7 := eq_true hel.2
          have q8 : ((rd_T67 C (j : Int)).f0 < ((undo L C gk).length : Int)) = True := eq_true (by omega)
          have HST7 := Aside0.mk h7
          have HBD := Aside0.mk hbd
          have HKD := Aside0.mk hkd
          have HEL := Aside0.mk hel
          have HUL := Aside0.mk hul
          have HG2 := Aside0.mk hg2
          have HD1 := Aside0.mk d1
          clear h7 hk7 hs2 hg2 hwd hba hbd hkd hel hul hcbg ett g0 g1 g2 hcut hf hs6
          go_wp2_with fail
          go_region
          all_goals
            go_wp2
            go_roundg j
            case measure => exact (by have := HJJ.out; omega)
            case rel =>
              have hF7 := Kd.F_drew (Kd.F_grown (Kd.F_drew (Kd.F_below HF5.out HBC.out)) HG2.out (fun k hk e => hk.2.1 (by simpa using e)))
              obtain ⟨h8, hk8, hg8⟩ := StV.put_dom (HST7.out.below (below_drew (Below.refl _ _))) (rd_T67 C (j : Int)).f0 HEL.out.1 (by have := HEL.out.2; have := HUL.out; omega) (A := A0) (n := (rd_T67 C (j : Int)).f1.length) (c := c0) (x := (rd_T67 C (j : Int)).f1) (fun W' hW => ⟨A0, c0, rfl, HLE.out, hF7 W' hW⟩)
                (fun k hk => ⟨⟨hk.1, hk.2.1, fun e => hk.2.2.2.1 (by simpa [Value.ownBlock] using e), hk.2.2.2.2⟩, fun e => hk.2.2.1 (by simpa [Value.ownBlock] using e)⟩)
              have ej := HJJ.out
              have eu : (undo L C gk).set (rd_T67 C (j : Int)).f0.toNat (rd_T67 C (j : Int)).f1 = undo L C j := by
                rw [undo_step L C j (by have := HJ.out.1.1; omega), ej]; rfl
              rw [eu, HUL.out] at h8
              have hm := of_decide_eq_true HD1.out
              refine ⟨⟨⟨by have := HJ.out.1.1; omega, undo_len _ _⟩, .inl (by omega)⟩, ⟨h8⟩, ⟨?_⟩, ⟨?_⟩⟩
              · exact (below_drew HBD.out).grown hg8 (Nat.le_trans HS.out HKD.out.1) (fun k e => by cases e; exact Kd.N_base HST7.out.l gl (by simp [Value.ownBlock]))
              · exact Kept.of_grown hg8 (Kept.drew HKD.out) (fun k e => by cases e; exact .inl (HU.out.2.1 gl (by simp [Value.ownBlock])))
    · have d1 : decide (m < (gk : Int)) = false := decide_eq_false hgk
      rw [d1]
      have hcm := (Kd.R_reads' HST.out.m).2.1
      have hcut := cut_to (P := Try.prog) 30 3 .i64 Try.underlying30 hi0 (some ⟨gm, 0, none⟩) n cm (t : Int) (by omega) (by have := HN.out; have := HT.out; omega) hcm
      have hf := raw_free HST.out.s 2
      have HGK := Aside0.mk hgk
      clear hgk hcm hmk
      go_wp2_with fail
      go_ret
      obtain ⟨hs2, hg2⟩ := raw_set (w := wr.drewN nq) (Kd.R_drewN HST.out.s nq) 2 (by omega) (u := .slice (some ⟨gm, 0, none⟩) t cm) rfl
      obtain ⟨h1, h2⟩ := StV.cutm (HST.out.below (pw_below_drewN (Below.refl _ _) nq)) (j := t) (by have := HT.out; simp; omega) hs2 hg2
      have et : (M ++ [m]).take t = M := by rw [HT.out]; simp
      have eu : undo L C gk = undo L C m.toNat ∧ C.take gk = C.take m.toNat := by
        have h3 := HGK.out
        have h4 := HM.out
        rcases HJ.out.2 with h5 | h5
        · rw [show m.toNat = gk by omega]; exact ⟨rfl, rfl⟩
        · subst h5
          unfold undo
          rw [List.drop_length, List.drop_of_length_le (by omega), List.take_length, List.take_of_length_le (by omega)]
          exact ⟨rfl, rfl⟩
      rw [et, eu.1, eu.2] at h1
      refine ⟨rfl, ⟨_, _, _, h1, HU.out.1, HU.out.2.1, fun k hk => HU.out.2.2.1 k (by cases Ac <;> exact hk), fun k hk => HU.out.2.2.2 k hk⟩, ?_, ?_⟩
      · exact (pw_below_drewN HBR.out nq).grown hg2 (Nat.le_trans HS.out HKR.out.1) (fun k e => by cases e; exact Kd.R_base HST.out.s g (one_own g))
      · exact Kept.of_grown hg2 (Kept.drewN HKR.out nq) (fun k e => by cases e; exact .inl HU.out.1)
end
end Go.Proofs.Ytcjachhdoogbaaa.PT
