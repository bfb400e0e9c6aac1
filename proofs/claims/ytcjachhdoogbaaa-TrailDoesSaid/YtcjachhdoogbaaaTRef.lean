/- The document's store (secateurref03.Store) in memory, and its Set. No conditions but the lengths' bounds. -/
import Derived.Test.YtcjachhdoogbaaaTNewR
import Derived.Test.YtcjachhdoogbaaaTSameS
set_option linter.unusedVariables false
set_option linter.unusedSimpArgs false
namespace Go.Proofs.Ytcjachhdoogbaaa.PT
open Go.RowKit Go.Proofs.YtcjachhdoogbaaaW.PrintWords Go.Proofs.YtcjachhdoogbaaaW.PrintLast Go.Proofs.YtcjachhdoogbaaaW.PrintMore
/-- What the document's Set does: the domains then, the number of changes, its answer. -/
def setR (L : List (List S62)) (N : Int) (i : Int) (d : List S62) : List (List S62) × Int × Int :=
  if 0 ≤ i ∧ i < L.length then
    if chk d = 0 then
      if (vals d).filter (fun v => decide (v ∈ vals (rd_L3 L i)) == false) = [] then
        if d = rd_L3 L i then (L, N, 0) else (L.set i.toNat d, N + 1, 0)
      else (L, N, 1)
    else (L, N, chk d)
  else (L, N, 1)
theorem setR_setS (L : List (List S62)) (C : List S67) (i : Int) (d : List S62) (hL : ∀ x ∈ L, Dom x) (hd : d.length ≤ 1000000) (L' : List (List S62)) (C' : List S67) (r : Int) (hs : setS KK L C i d = some (L', C', r)) : setR L (C.length : Int) i d = (L', (C'.length : Int), r) := by
  unfold setS at hs
  unfold setR
  by_cases c : 0 ≤ i ∧ i < L.length
  · rw [if_pos c, check_f KK d hd (by rw [kk]; omega), Option.bind_some] at hs
    rw [if_pos c]
    by_cases ch : chk d = 0
    · have hdd := (chk_zero d).1 ch
      have hli := hL _ (rdL3_mem L i c.1 c.2)
      obtain ⟨m, h1, h2, h3⟩ := minus_f KK d (rd_L3 L i) hdd hli (by rw [kk]; omega)
      rw [if_pos ch, h1, Option.bind_some] at hs
      rw [if_pos ch]
      have hiff : m.length = 0 ↔ (vals d).filter (fun v => decide (v ∈ vals (rd_L3 L i)) == false) = [] := by
        rw [h3, List.filter_eq_nil_iff]
        simp
      by_cases cm : m.length = 0
      · rw [if_neg (by omega), same_f KK d _ hd (by rw [kk]; omega), Option.bind_some] at hs
        rw [if_pos (hiff.1 cm)]
        by_cases ce : d = rd_L3 L i
        · rw [if_pos (decide_eq_true ce)] at hs
          rw [if_pos ce]
          cases hs; rfl
        · rw [if_neg (by simpa using ce)] at hs
          rw [if_neg ce]
          cases hs
          simp
      · rw [if_pos (by omega)] at hs
        rw [if_neg (fun h => cm (hiff.2 h))]
        cases hs; rfl
    · rw [if_neg ch] at hs
      rw [if_neg ch]
      cases hs; rfl
  · rw [if_neg c] at hs
    rw [if_neg c]
    cases hs; rfl
/-- The document's store: its block, its domains (only read), the row of its marks. -/
def RSt (T : Nat → Prop) (w : World) (base kb : Nat) (L : List (List S62)) (N : Int) (K : List S74) : Prop := ∃ Al cl Am cm, T kb ∧ base ≤ kb ∧ w.heap[kb]? = some (.cells #[.slice Al L.length cl, .int .i64 N, .slice Am K.length cm] 77 (0, 0)) ∧ L.length ≤ cl ∧
  Kd.F kL w (fun k => T k ∧ k ≠ kb ∧ some k ≠ (Value.slice Am K.length cm).ownBlock) Al L.length L ∧ Kd.N k74 74 w base (fun k => T k ∧ k ≠ kb) (.slice Am K.length cm) K
section
variable {T T' : Nat → Prop} {w w1 w0 : World} {base kb : Nat} {L : List (List S62)} {N : Int} {K : List S74}
theorem RSt.step (h : RSt T w base kb L N K) (hm : ∀ k, T k → k < w.heap.size → w1.heap[k]? = w.heap[k]?) : RSt T w1 base kb L N K := by
  obtain ⟨Al, cl, Am, cm, h1, h2, h3, h4, h5, h6⟩ := h
  exact ⟨Al, cl, Am, cm, h1, h2, (hm kb h1 (blk_lt h3)).trans h3, h4, Kd.F_step h5 (fun k hk => hm k hk.1), Kd.N_step h6 (fun k hk => hm k hk.1)⟩
theorem RSt.below (h : RSt T w base kb L N K) (hb : Below w.heap.size w w1) : RSt T w1 base kb L N K := h.step (fun k _ hk => hb.block k hk)
theorem RSt.mono (h : RSt T w base kb L N K) (ht : ∀ k, T k → T' k) : RSt T' w base kb L N K := by
  obtain ⟨Al, cl, Am, cm, h1, h2, h3, h4, h5, h6⟩ := h
  exact ⟨Al, cl, Am, cm, ht _ h1, h2, h3, h4, Kd.F_mono h5 (fun k hk => ⟨ht k hk.1, hk.2⟩), Kd.N_mono h6 (fun k hk => ⟨ht k hk.1, hk.2⟩)⟩
theorem RSt.bound (h : RSt T w base kb L N K) : RSt (fun k => T k ∧ k < w.heap.size) w base kb L N K := by
  obtain ⟨Al, cl, Am, cm, h1, h2, h3, h4, h5, h6⟩ := h
  exact ⟨Al, cl, Am, cm, ⟨h1, blk_lt h3⟩, h2, h3, h4, Kd.F_mono (Kd.F_bound h5) (fun k hk => ⟨⟨hk.1.1, hk.2⟩, hk.1.2⟩), Kd.N_mono (Kd.N_bound h6) (fun k hk => ⟨⟨hk.1.1, hk.2⟩, hk.1.2⟩)⟩
theorem N_dom_cell {ok : Nat → Prop} {gl c8 : Nat} (h : Kd.N kL 31 w base ok (.slice (some ⟨gl, 0, none⟩) L.length c8) L) (i : Int) (h0 : 0 ≤ i) (h1 : i < L.length) : (∃ u, w.cell? ⟨gl, i.toNat, none⟩ = some u) ∧ w.frozen? ⟨gl, i.toNat, none⟩ = false := by
  obtain ⟨cs, hcl, hFK, hcc, hfr⟩ := Kd.N_elem h ([] : List S62) i h0 h1
  obtain ⟨A, c, rfl, _, _⟩ := Kd.FK_now hFK
  have h2 := hcc 0 _ rfl
  have h3 := hfr 0
  have hs : kL.sz = 1 := rfl
  rw [hs, Nat.mul_one, Nat.add_zero] at h2 h3
  exact ⟨⟨_, h2⟩, h3⟩
theorem N_dom_set {ok : Nat → Prop} {gl c8 : Nat} (h : Kd.N kL 31 w base ok (.slice (some ⟨gl, 0, none⟩) L.length c8) L) (i : Int) (h0 : 0 ≤ i) (h1 : i < L.length) {A : Option Addr} {n c : Nat} {x : List S62} {okx : Nat → Prop} (hx : Kd.FK kL w okx x [.slice A n c]) (hok : ∀ k, okx k → ok k ∧ k ≠ gl) :
    Kd.N kL 31 (w.setCell ⟨gl, i.toNat, none⟩ (.slice A n c)) base ok (.slice (some ⟨gl, 0, none⟩) L.length c8) (L.set i.toNat x) := by
  obtain ⟨cs, hcl, hFK, hcc, hfr⟩ := Kd.N_elem h ([] : List S62) i h0 h1
  obtain ⟨A0, c0, rfl, _, _⟩ := Kd.FK_now hFK
  obtain ⟨hN, hg⟩ := Kd.N_seg h i h0 h1 (c := [.slice A0 ((L.getD i.toNat []).length) c0]) (seg := [.slice A n c]) (j := 0) rfl hcc (by show 0 + 1 ≤ 1; omega) (x' := x) (okp := okx) hx hok
  have e1 : w.setCells gl (i.toNat * kL.sz + 0) [.slice A n c] = w.setCell ⟨gl, i.toNat, none⟩ (.slice A n c) := by
    have hs : kL.sz = 1 := rfl
    rw [hs, Nat.mul_one, Nat.add_zero]; rfl
  rw [e1] at hN
  exact hN
set_option maxRecDepth 100000
set_option maxHeartbeats 4000000
theorem rset_calls (i : Int) (A : Option Addr) (c : Nat) (d : List S62) (L' : List (List S62)) (N' r : Int) (h : RSt T w base kb L N K) (hB : Below base w0 w) (hbase : base ≤ w.heap.size) (hd : Kd.C k62 w A d.length d) (hdc : d.length ≤ c) (hdl : d.length ≤ 10000)
    (hL : L.length ≤ 8 ∧ ∀ x ∈ L, Dom x) (hN : 0 ≤ N ∧ N ≤ 1000000) (hr : setR L N i d = (L', N', r)) :
    Calls Try.prog 28 #[.pointer (some ⟨kb, 0, none⟩), .int .i64 i, .slice A d.length c] w fun e w' => e = .returned (.int .i64 r) ∧ RSt (fun k => T k ∨ w.heap.size ≤ k) w' base kb L' N' K ∧ Below base w0 w' ∧ Kept w w' T := by
  obtain ⟨Al, cl, Am, cm, hT, hkb, hblk, hle, hF, hm⟩ := h
  obtain ⟨hk0, hk1, hk2⟩ := kcells hblk
  have HT := Aside0.mk hT
  have HKB := Aside0.mk hkb
  have HBL := Aside0.mk hblk
  have HLE := Aside0.mk hle
  have HF := Aside0.mk hF
  have HM := Aside0.mk hm
  have HB := Aside0.mk hB
  have HS := Aside0.mk hbase
  have HD := Aside0.mk hd
  have HDC := Aside0.mk hdc
  have HDL := Aside0.mk hdl
  have HL := Aside0.mk hL
  have HN := Aside0.mk hN
  have quiet : ∀ w', Below w.heap.size w w' → RSt (fun k => T k ∨ w.heap.size ≤ k) w' base kb L N K ∧ Below base w0 w' ∧ Kept w w' T := fun w' hb =>
    ⟨(RSt.below ⟨Al, cl, Am, cm, HT.out, HKB.out, HBL.out, HLE.out, HF.out, HM.out⟩ hb).mono (fun k hk => .inl hk), HB.out.trans (hb.mono HS.out), Kept.of_below hb T⟩
  have QQ := Aside0.mk quiet
  have hu25 := Try.underlying25
  have hu3 := Try.underlying3
  have hu28 := Try.underlying28
  have hu31 := Try.underlying31
  have hu74 := Try.underlying74
  have hu77 := Try.underlying77
  clear hT hkb hblk hle hF hm hB hbase hd hdc hdl hL hN quiet
  unfold setR at hr
  by_cases c0 : 0 ≤ i
  · have n1 : decide (i < 0) = false := decide_eq_false (by omega)
    by_cases c1 : i < L.length
    · rw [if_pos ⟨c0, c1⟩] at hr
      have n2 : decide (i ≥ (L.length : Int)) = false := decide_eq_false (by omega)
      have n3 : decide ((L.length : Int) ≤ i) = false := decide_eq_false (by omega)
      have CC := Aside0.mk (And.intro c0 c1)
      have p1 := eq_true c0
      have p2 := eq_true c1
      clear c0 c1
      go_enter Try.func28, Try.ntmps28
      go_wp2_with fail
      refine (rcheck_calls A c d w HD.out HDC.out (by have := HDL.out; omega)).mono ?_
      rintro e w1 ⟨rfl, hb⟩
      have HB1 := Aside0.mk hb
      clear hb hk0 hk1 hk2
      by_cases ch : chk d = 0
      · rw [if_pos ch] at hr
        rw [ch]
        have HDD := Aside0.mk ((chk_zero d).1 ch)
        have HLI := Aside0.mk (HL.out.2 _ (rdL3_mem L i CC.out.1 CC.out.2))
        obtain ⟨hk0, _, _⟩ := kcells (blk_below HBL.out HB1.out)
        obtain ⟨al, B, b, e, hx, hlb, hcb⟩ := at_L3 (Kd.C_below (Kd.F_now HF.out) HB1.out) i CC.out.1 CC.out.2
        subst e
        have HX := Aside0.mk (And.intro hlb hcb)
        clear ch hlb hcb
        go_wp2_with fail
        refine (s_pick A c d B b (rd_L3 L i) false w1 (Kd.C_below HD.out HB1.out) HDC.out HX.out.2 HX.out.1 HDD.out HLI.out).mono ?_
        rintro e w2 ⟨Ap, cp, dp, rfl, _, _, hz, hb⟩
        have HB2 := Aside0.mk (HB1.out.trans (hb.mono HB1.out.size))
        have HX2 := Aside0.mk (And.intro HX.out.1 (Kd.C_below HX.out.2 hb))
        replace hx := (hb.cell (World.block_lt_of_cell? w1 _ hx)).trans hx
        clear hb hk0 HX
        by_cases cz : (vals d).filter (fun v => decide (v ∈ vals (rd_L3 L i)) == false) = []
        · rw [if_pos cz] at hr
          have hz0 : dp.length = 0 := hz.2 cz
          rw [hz0]
          obtain ⟨hk0, _, _⟩ := kcells (blk_below HBL.out HB2.out)
          clear hz hz0 cz
          go_wp2_with fail
          refine (s_same A c d B b (rd_L3 L i) w2 (Kd.C_below HD.out HB2.out) HDC.out HX2.out.2 HX2.out.1 (by have := HDL.out; omega)).mono ?_
          rintro e w3 ⟨rfl, hb⟩
          have HB3 := Aside0.mk (HB2.out.trans (hb.mono HB2.out.size))
          clear hb hk0 hx HX2
          by_cases ce : d = rd_L3 L i
          · rw [if_pos ce] at hr
            cases hr
            rw [decide_eq_true ce]
            clear ce
            go_wp2
            go_ret
            exact ⟨rfl, QQ.out _ HB3.out⟩
          · rw [if_neg ce] at hr
            cases hr
            rw [decide_eq_false ce]
            obtain ⟨hk0, hk1, hk2⟩ := kcells (blk_below HBL.out HB3.out)
            clear ce
            go_wp2_with fail
            refine (secateurref03_Lists.calls KK (some al) cl L L w3 (Kd.C_below (Kd.F_now HF.out) HB3.out) HLE.out (lists_f KK L (by have := HL.out.1; omega) (fun x hx => by have := dom_len x (HL.out.2 x hx); omega) (by rw [kk]; have := HL.out.1; omega))).mono ?_
            rintro e w4 ⟨v, rfl, hS4, hb⟩
            have hN4 := Kd.R_N (Kd.R_mono (ok' := fun k => w3.heap.size ≤ k) (Kd.R_bound (Kd.S_R hS4)) (fun k hk => hk.2.1))
            have HB4 := Aside0.mk (HB3.out.trans (hb.mono HB3.out.size))
            have HBX := Aside0.mk hb
            obtain ⟨gl, c8, rfl, hgb, hgl, _⟩ := Kd.N_form hN4 (by have := CC.out; omega)
            have HN4 := Aside0.mk hN4
            have HGL := Aside0.mk (show w3.heap.size ≤ gl ∧ gl < w4.heap.size from ⟨hgb, hgl⟩)
            clear hS4 hN4 hb hgb hgl hk0 hk1 hk2
            go_wp2_with (first
              | ((with_reducible refine gate_dst (N := 57) rfl ?_); refine Kd.N_lit k62 (w0 := w4) w4.heap.size 62 ?hg (N' := 57) ?hd (xs := ([] : List S62)) (inner := []) (ok := fun k => True) (okp := fun _ => False) ?hr ?hp (fun _ hk => hk.elim) trivial (Below.refl _ _) (Nat.le_refl _) (by simp) ?_; (case hd => rfl); (case hg => rfl); (case hr => first | (go_simp; done) | (go_simp; rfl)); (case hp => exact (Reps.none _ _)); intro v1 w5 hN hb hg hat; have HN5 := Aside0.mk hN; have HB5 := Aside0.mk hb; have HA5 := Aside0.mk hat; clear hN hb hg hat)
              | ((with_reducible refine gate_builtin (b := .append) (xs := #[.tmp 57, .tmp 58]) rfl ?_); at_builtin; refine Kd.N_append_rows k62 (w0 := w4) w4.heap.size rfl (.tmp 57) (.tmp 58) 31 62 (.agg #[(.int .i64 0), (.int .i64 0)]) 16 rfl Try.underlying31 info62 rfl (by decide) (by omega) v1 [] d A d.length c (fun k => True) (fun k => k < w.heap.size) rfl rfl HN5.out (Kd.F_below (Kd.F_below (Kd.C_F heap62 HD.out) HB4.out) HB5.out) ?aK (fun k hk => trivial) HB5.out HB5.out.size (by have := HDL.out; rw [List.length_nil]; omega) ?_; (case aK => exact fun k hk => ⟨trivial, fun he => by obtain ⟨b, hb, hlt⟩ := HA5.out; rw [hb] at he; cases he; have := HB4.out.size; omega⟩); intro v2 w6 hN6 hb6 hg6 hat6; obtain ⟨A9, c9, rfl⟩ := Kd.N_slice hN6; have HN6 := Aside0.mk hN6; have HB6 := Aside0.mk hb6; clear hN6 hb6 hg6 hat6; obtain ⟨⟨u6, hu6⟩, hfr6⟩ := N_dom_cell (Kd.N_below HN4.out HB6.out) i CC.out.1 CC.out.2; have HKB6 := Aside0.mk (blk_below HBL.out (HB4.out.trans (HB6.out.mono HB4.out.size))); have hne : kb ≠ gl := (fun e => by have := blk_lt HBL.out; have := HGL.out.1; have := HB3.out.size; omega); have hq0 := (fun u => blk_cell (blk_far HKB6.out (p := ⟨gl, i.toNat, none⟩) hne u) 0); have hq1 := (fun u => blk_cell (blk_far HKB6.out (p := ⟨gl, i.toNat, none⟩) hne u) 1); have hf0 := (fun u => blk_frozen (blk_far HKB6.out (p := ⟨gl, i.toNat, none⟩) hne u) 0); have hf1 := (fun u => blk_frozen (blk_far HKB6.out (p := ⟨gl, i.toNat, none⟩) hne u) 1); have HNE := Aside0.mk hne; clear hne))
            go_ret
            have hsz3 : w.heap.size ≤ w3.heap.size := HB3.out.size
            have hgl := HGL.out
            have hb6 : Below w.heap.size w w6 := HB4.out.trans (HB6.out.mono HB4.out.size)
            have hkl := blk_lt HBL.out
            have hN6 : Kd.N k62 62 w6 w4.heap.size (fun k => w4.heap.size ≤ k) (.slice A9 d.length c9) d := N62 HN6.out (Kd.N_base HN6.out)
            have hN7 := N_dom_set (Kd.N_below HN4.out HB6.out) i CC.out.1 CC.out.2 (FK_of_N hN6) (fun k hk => ⟨by have := hgl.2; omega, by have := hgl.2; omega⟩)
            have hw1 : wrap64 (N + 1) = N + 1 := wrap_id _ (by have := HN.out; omega)
            have hml := Kd.N_lt HM.out
            rw [hw1]
            refine ⟨rfl, ⟨some ⟨gl, 0, none⟩, c8, Am, cm, .inl HT.out, HKB.out, ?_, ?_, ?_, ?_⟩, ?_, ?_⟩
            · rw [List.length_set]
              exact blk_put (blk_put (blk_far HKB6.out (p := ⟨gl, i.toNat, none⟩) HNE.out _) 0 _ rfl) 1 _ rfl
            · rw [List.length_set]; exact (Kd.N_reads' HN4.out).2.1
            · rw [List.length_set]
              exact Kd.F_mono (Kd.F_far (Kd.F_far (Kd.N_F hN7) (p := ⟨kb, 0, none⟩) (fun k hk e => by have : k = kb := e; omega) _) (p := ⟨kb, 1, none⟩) (fun k hk e => by have : k = kb := e; omega) _)
                (fun k hk => ⟨.inr (by omega), fun e => by omega, fun e => by have := hml k e.symm; omega⟩)
            · exact Kd.N_mono (Kd.N_far (Kd.N_far (Kd.N_far (Kd.N_bound (Kd.N_below (Kd.N_bound HM.out) hb6)) (p := ⟨gl, i.toNat, none⟩) (fun k hk e => by have : k = gl := e; have := hk.1.2; omega) _) (p := ⟨kb, 0, none⟩) (fun k hk e => hk.1.1.2 e) _) (p := ⟨kb, 1, none⟩) (fun k hk e => hk.1.1.2 e) _) (fun k hk => ⟨.inl hk.1.1.1, hk.1.1.2⟩)
            · exact (((HB.out.trans (hb6.mono HS.out)).setCell (show base ≤ gl by have := HS.out; omega) _).setCell (p := ⟨kb, 0, none⟩) HKB.out _).setCell (p := ⟨kb, 1, none⟩) HKB.out _
            · exact Kept.setCell (Kept.setCell (Kept.setCell (Kept.of_below hb6 T) (p := ⟨gl, i.toNat, none⟩) (.inr (by show w.heap.size ≤ gl; omega)) _) (p := ⟨kb, 0, none⟩) (.inl HT.out) _) (p := ⟨kb, 1, none⟩) (.inl HT.out) _
        · rw [if_neg cz] at hr
          cases hr
          have hz0 : ¬ dp.length = 0 := fun h => cz (hz.1 h)
          have z1 : decide ((dp.length : Int) > 0) = true := decide_eq_true (by omega)
          have z2 : decide ((0 : Int) < (dp.length : Int)) = true := decide_eq_true (by omega)
          have z3 : decide (0 < dp.length) = true := decide_eq_true (by omega)
          clear hz hz0 cz hx
          go_wp2
          go_ret
          exact ⟨rfl, QQ.out _ HB2.out⟩
      · rw [if_neg ch] at hr
        cases hr
        have e1 : (chk d == 0) = false := beq_eq_false_iff_ne.mpr ch
        have e2 : (chk d != 0) = true := bne_iff_ne.mpr ch
        clear ch
        go_wp2
        go_ret
        exact ⟨rfl, QQ.out _ HB1.out⟩
    · rw [if_neg (fun h => c1 h.2)] at hr
      cases hr
      have n2 : decide (i ≥ (L.length : Int)) = true := decide_eq_true (by omega)
      have n3 : decide ((L.length : Int) ≤ i) = true := decide_eq_true (by omega)
      clear c0 c1
      go_enter Try.func28, Try.ntmps28
      go_wp2
      go_ret
      exact ⟨rfl, QQ.out _ (Below.refl _ _)⟩
  · rw [if_neg (fun h => c0 h.1)] at hr
    cases hr
    have n1 : decide (i < 0) = true := decide_eq_true (by omega)
    clear c0
    go_enter Try.func28, Try.ntmps28
    go_wp2
    go_ret
    exact ⟨rfl, QQ.out _ (Below.refl _ _)⟩
end
end Go.Proofs.Ytcjachhdoogbaaa.PT
