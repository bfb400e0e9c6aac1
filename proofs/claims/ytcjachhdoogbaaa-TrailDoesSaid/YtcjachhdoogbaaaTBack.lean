/- Back: the changes behind the last mark are taken back, in whatever memory. No conditions but that the store is whole. -/
import Derived.Test.YtcjachhdoogbaaaTSet
import Derived.Deep.QuietTactic
import Derived.BigQuiet
import Derived.IntWalk
set_option linter.unusedVariables false
set_option linter.unusedSimpArgs false
namespace Go.Proofs.Ytcjachhdoogbaaa.PT
open Go.RowKit Go.Proofs.YtcjachhdoogbaaaW.PrintWords Go.Proofs.YtcjachhdoogbaaaW.PrintLast Go.Proofs.YtcjachhdoogbaaaW.PrintMore
/-- One change taken back. -/
def putc (c : S67) (L : List (List S62)) : List (List S62) := L.set c.f0.toNat c.f1
theorem cell_at {w : World} {g : Nat} {cur : Array Value} {e : TypeId} (h : w.heap[g]? = some (.cells cur e (0, 0))) (j : Nat) : w.cell? ⟨g, j, none⟩ = cur[j]? := by simp [World.cell?, h]
def undo (L : List (List S62)) (C : List S67) (j : Nat) : List (List S62) := (C.drop j).foldr putc L
theorem undo_len (L : List (List S62)) (C : List S67) : (C.foldr putc L).length = L.length := by
  induction C with
  | nil => rfl
  | cons c C ih => rw [List.foldr_cons, putc, List.length_set, ih]
theorem rd67_mem (C : List S67) (j : Nat) (h : j < C.length) : rd_T67 C (j : Int) ∈ C := by
  have h4 : rd_T67 C (j : Int) = C[j] := by rw [rd_T67, Int.toNat_natCast, List.getD_eq_getElem?_getD, List.getElem?_eq_getElem h]; rfl
  rw [h4]; exact List.getElem_mem h
theorem undo_all (L : List (List S62)) (C : List S67) : undo L C C.length = L := by unfold undo; rw [List.drop_length]; rfl
theorem undo_step (L : List (List S62)) (C : List S67) (j : Nat) (h : j < C.length) : undo L C j = putc (rd_T67 C j) (undo L C (j + 1)) := by
  unfold undo
  rw [List.drop_eq_getElem_cons h, List.foldr_cons]
  congr 1
  simp [rd_T67, List.getD_eq_getElem?_getD, List.getElem?_eq_getElem h]
section
variable {T : Nat → Prop} {w0 w w1 w2 : World} {base g : Nat} {lv cv mv : Value} {L : List (List S62)} {C : List S67} {M : List Int}
/-- The last change, where it lies. -/
theorem StV.change {A : Option Addr} {n c : Nat} (h : StV T w base g lv (.slice A n c) mv L C M) (i : Int) (h0 : 0 ≤ i) (h1 : i < n) : ∃ gc A0 c0, A = some ⟨gc, 0, none⟩ ∧ w.cell? ⟨gc, i.toNat * 2, none⟩ = some (.int .i64 (rd_T67 C i).f0) ∧ w.cell? ⟨gc, i.toNat * 2 + 1, none⟩ = some (.slice A0 (rd_T67 C i).f1.length c0) ∧ (rd_T67 C i).f1.length ≤ c0 ∧
    Kd.F k62 w (fun k => T k ∧ k ≠ g ∧ some k ≠ lv.ownBlock ∧ some k ≠ (Value.slice A n c).ownBlock ∧ some k ≠ mv.ownBlock) A0 (rd_T67 C i).f1.length (rd_T67 C i).f1 := by
  have hn := (Kd.N_reads' h.c).1
  obtain ⟨gc, cap, e, _⟩ := Kd.N_form h.c (by omega)
  simp only [Value.slice.injEq] at e
  obtain ⟨rfl, _, rfl⟩ := e
  obtain ⟨cs, hcl, hF, hc, _⟩ := Kd.N_elem h.c z67 i h0 h1
  obtain ⟨A0, c0, rfl, hle, hC⟩ := k67_open (Kd.FK_now hF)
  have hs : k67.sz = 2 := rfl
  have e0 := hc 0 _ rfl
  have e1 := hc 1 _ rfl
  rw [hs] at e0 e1
  refine ⟨gc, A0, c0, rfl, e0, e1, hle, ?_⟩
  intro W' hW
  obtain ⟨A1, c1, e, _, hC1⟩ := k67_open (hF W' (fun k hk hlt => hW k ⟨hk.1.1, hk.1.2.1, hk.1.2.2.1, fun e => hk.2 (by simpa [Value.ownBlock] using e), hk.1.2.2.2⟩ hlt))
  simp only [List.cons.injEq, Value.slice.injEq, and_true, true_and] at e
  obtain ⟨rfl, _, rfl⟩ := e
  exact hC1
/-- The changes' row, cut. -/
theorem StV.cut {A : Option Addr} {n c j : Nat} (h : StV T w base g lv (.slice A n c) mv L C M) (hj : j ≤ C.length) (hs : (Kd.raw 3).R 39 w2 base T (one g) [[lv, .slice A j c, mv]]) (hg2 : w.grownBy w2 (some g)) :
    StV T w2 base g lv (.slice A j c) mv L (C.take j) M ∧ Kept w w2 T := by
  have ho : (Value.slice A n c).ownBlock = (Value.slice A j c).ownBlock := by cases A <;> rfl
  refine ⟨⟨hs, ?_, ?_, ?_⟩, Kept.of_grown hg2 (Kept.refl w T) (fun k hk => .inl (by cases hk; exact h.own.1))⟩
  · exact Kd.N_mono (Kd.N_grown h.l hg2 (fun k hk e => hk.2.1 (by simpa using e))) (fun k hk => ⟨hk.1, hk.2.1, by rw [← ho]; exact hk.2.2.1, hk.2.2.2⟩)
  · exact Kd.N_take (Kd.N_grown h.c hg2 (fun k hk e => hk.2.1 (by simpa using e))) hj
  · exact Kd.R_mono (Kd.R_grown h.m hg2 (fun k hk e => hk.2.1 (by simpa using e))) (fun k hk => ⟨hk.1, hk.2.1, hk.2.2.1, by rw [← ho]; exact hk.2.2.2⟩)
/-- The marks' row, cut. -/
theorem StV.cutm {A : Option Addr} {n c j : Nat} (h : StV T w base g lv cv (.slice A n c) L C M) (hj : j ≤ M.length) (hs : (Kd.raw 3).R 39 w2 base T (one g) [[lv, cv, .slice A j c]]) (hg2 : w.grownBy w2 (some g)) :
    StV T w2 base g lv cv (.slice A j c) L C (M.take j) ∧ Kept w w2 T := by
  have ho : (Value.slice A n c).ownBlock = (Value.slice A j c).ownBlock := by cases A <;> rfl
  refine ⟨⟨hs, ?_, ?_, ?_⟩, Kept.of_grown hg2 (Kept.refl w T) (fun k hk => .inl (by cases hk; exact h.own.1))⟩
  · exact Kd.N_mono (Kd.N_grown h.l hg2 (fun k hk e => hk.2.1 (by simpa using e))) (fun k hk => ⟨hk.1, hk.2.1, hk.2.2.1, by rw [← ho]; exact hk.2.2.2⟩)
  · exact Kd.N_mono (Kd.N_grown h.c hg2 (fun k hk e => hk.2.1 (by simpa using e))) (fun k hk => ⟨hk.1, hk.2.1, hk.2.2.1, by rw [← ho]; exact hk.2.2.2⟩)
  · exact Kd.R_take (Kd.R_grown h.m hg2 (fun k hk e => hk.2.1 (by simpa using e))) hj
/-- A mark, where it lies. -/
theorem StV.mark {A : Option Addr} {n c : Nat} (h : StV T w base g lv cv (.slice A n c) L C M) (i : Int) (h0 : 0 ≤ i) (h1 : i < n) : ∃ gm, A = some ⟨gm, 0, none⟩ ∧ w.cell? ⟨gm, i.toNat, none⟩ = some (.int .i64 (M.getD i.toNat 0)) := by
  have hn := (Kd.R_reads' h.m).1
  obtain ⟨gm, cap, e, _⟩ := Kd.R_form h.m (by omega)
  cases e
  obtain ⟨cs, hcl, hM, hc, _⟩ := Kd.R_elem h.m 0 i h0 h1
  have e : cs = [.int .i64 (M.getD i.toNat 0)] := hM
  subst e
  have := hc 0 _ rfl
  have hs : (Kd.int .i64).sz = 1 := rfl
  rw [hs, Nat.mul_one, Nat.add_zero] at this
  exact ⟨gm, rfl, this⟩
set_option maxRecDepth 100000
set_option maxHeartbeats 4000000
theorem back_none (h : St T w base g L C []) : Calls Try.prog 25 #[.pointer (some ⟨g, 0, none⟩)] w fun e w' => e = .returned (.int .i64 30) ∧ Below w.heap.size w w' := by
  obtain ⟨lv, cv, mv, h⟩ := h
  obtain ⟨⟨Al, cl, rfl, _⟩, ⟨Ac, cc, rfl, _⟩, Am, cm, rfl, _⟩ := h.forms
  obtain ⟨h0, h1, h2⟩ := h.cells
  have h2 : w.cell? ⟨g, 2, none⟩ = some (.slice Am 0 cm) := h2
  clear h h0 h1
  go_enter Try.func25, Try.ntmps25
  go_wp2
  go_ret
  exact ⟨rfl, Below.refl _ _⟩
theorem back_calls (m : Int) (h : St T w base g L C (M ++ [m])) (hB : Below base w0 w) (hbase : base ≤ w.heap.size) (hm : 0 ≤ m) (hC : ∀ c ∈ C, 0 ≤ c.f0 ∧ c.f0 < L.length) (hbig : M.length ≤ 1000000 ∧ C.length ≤ 1000000) :
    Calls Try.prog 25 #[.pointer (some ⟨g, 0, none⟩)] w fun e w' => e = .returned (.int .i64 0) ∧ St (fun k => T k ∨ w.heap.size ≤ k) w' base g (undo L C m.toNat) (C.take m.toNat) M ∧ Below base w0 w' ∧ Kept w w' T := by
  obtain ⟨lv, cv, mv, h⟩ := h
  obtain ⟨⟨Al, cl, rfl, _⟩, ⟨Ac, cc, rfl, _⟩, Am, cm, rfl, _⟩ := h.forms
  obtain ⟨h0, h1, h2⟩ := h.cells
  obtain ⟨n, hn⟩ : ∃ n, n = (M ++ [m]).length := ⟨_, rfl⟩
  rw [← hn] at h2 h
  have hn1 : n = M.length + 1 := by rw [hn]; simp
  obtain ⟨gm, hgm, hmk⟩ := h.mark ((n : Int) - 1) (by omega) (by omega)
  cases hgm
  have e1 : ((n : Int) - 1).toNat = M.length := by omega
  have e2 : (M ++ [m]).getD M.length 0 = m := by simp [List.getD_eq_getElem?_getD]
  rw [e1, e2] at hmk
  have q0 : ((n : Int) == 0) = false := by rw [beq_eq_false_iff_ne]; omega
  have q1 : (n == 0) = false := by rw [beq_eq_false_iff_ne]; omega
  have q2 : decide (n = 0) = false := decide_eq_false (by omega)
  have HN := Aside0.mk hn1
  have HH := Aside0.mk h
  have HB := Aside0.mk hB
  have HS := Aside0.mk hbase
  have HM := Aside0.mk hm
  have HC := Aside0.mk hC
  have HG := Aside0.mk hbig
  have HK := Aside0.mk hmk
  have HE := Aside0.mk e1
  clear h h0 h1 hn hn1 hB hbase hm hC hbig hmk e1 e2
  go_enter Try.func25, Try.ntmps25
  go_wp2_with fail
  go_loopg [4] C.length (fun j v4 wr => Aside0 ((j ≤ C.length ∧ (undo L C j).length = L.length) ∧ (m.toNat ≤ j ∨ j = C.length)) ∧ Aside0 (StV (fun k => T k ∨ w.heap.size ≤ k) wr base g (.slice Al L.length cl) (.slice Ac j cc) (.slice (some ⟨gm, 0, none⟩) n cm) (undo L C j) (C.take j) (M ++ [m])) ∧ Aside0 (Below base w0 wr) ∧ Aside0 (Kept w wr T))
  case atStart => exact ⟨⟨⟨Nat.le_refl _, undo_len _ _⟩, .inr rfl⟩, ⟨by rw [undo_all, List.take_length]; exact HH.out.mono (fun k hk => .inl hk)⟩, HB, ⟨Kept.refl _ _⟩⟩
  case round =>
    obtain ⟨HJ, HST, HBR, HKR⟩ := hrel
    obtain ⟨g0, g1, g2⟩ := HST.out.cells
    obtain ⟨t, ht⟩ : ∃ t, t = M.length := ⟨_, rfl⟩
    obtain ⟨gm', hgm', hmk⟩ := HST.out.mark (t : Int) (by omega) (by have := HN.out; omega)
    cases hgm'
    have e2 : (M ++ [m]).getD (t : Int).toNat 0 = m := by rw [Int.toNat_natCast, ht]; simp [List.getD_eq_getElem?_getD]
    rw [e2, Int.toNat_natCast] at hmk
    have HT := Aside0.mk ht
    have hw : IntKind.i64.wrap ((n : Int) - 1) = (t : Int) := by rw [IntWalk.i64_in _ (by have := HN.out; have := HG.out; omega)]; have := HN.out; omega
    have hw2 : wrap64 ((n : Int) - 1) = (t : Int) := by rw [wrap_id _ (by have := HN.out; have := HG.out; omega)]; have := HN.out; omega
    have hlt := eq_true (show (t : Int) < (n : Int) by have := HN.out; omega)
    have hlt2 := eq_true (show t < n by have := HN.out; omega)
    clear ht e2 h2
    go_wp2_with fail
    go_quiet (fail)
    obtain ⟨i0, hi0, _, hsz, _⟩ := info_parts info3
    obtain ⟨i1, hi1, _, hsz1, _⟩ := info_parts info67
    by_cases hgk : m < (gk : Int)
    · have d1 : decide (m < (gk : Int)) = true := decide_eq_true hgk
      rw [d1]
      obtain ⟨j, hj⟩ : ∃ j, gk = j + 1 := ⟨gk - 1, by have := HM.out; omega⟩
      have hw3 : IntKind.i64.wrap ((gk : Int) - 1) = (j : Int) := by rw [IntWalk.i64_in _ (by have := HJ.out.1.1; have := HG.out; omega)]; omega
      have hw4 : wrap64 ((gk : Int) - 1) = (j : Int) := by rw [wrap_id _ (by have := HJ.out.1.1; have := HG.out; omega)]; omega
      have hj1 := eq_true (show (j : Int) < (gk : Int) by omega)
      have hj2 := eq_true (show j < gk by omega)
      obtain ⟨w5, hw5⟩ : ∃ w5, w5 = wr.drewN nq := ⟨_, rfl⟩
      have hst5 := HST.out.below (pw_below_drewN (Below.refl _ _) nq)
      have hb5 := pw_below_drewN HBR.out nq
      have hk5 := Kept.drewN HKR.out nq
      rw [← hw5] at hst5 hb5 hk5 ⊢
      obtain ⟨gc, A0, c0, hgc, e0, e1, hle, hF⟩ := hst5.change (j : Int) (by omega) (by omega)
      cases hgc
      rw [Int.toNat_natCast] at e0 e1
      have erd : rd_T67 (C.take gk) j = rd_T67 C j := by simp [rd_T67, List.getD_eq_getElem?_getD, List.getElem?_take, hj]
      rw [erd] at e0 e1 hle hF
      have ha0 : ∀ o : Obj, (w5.alloc o).cell? ⟨gc, j * 2, none⟩ = some (.int .i64 (rd_T67 C j).f0) := fun o => (World.cell?_alloc_lt _ _ _ (World.block_lt_of_cell? w5 _ e0)).trans e0
      have ha1 : ∀ o : Obj, (w5.alloc o).cell? ⟨gc, j * 2 + 1, none⟩ = some (.slice A0 (rd_T67 C j).f1.length c0) := fun o => (World.cell?_alloc_lt _ _ _ (World.block_lt_of_cell? w5 _ e1)).trans e1
      obtain ⟨g0, g1, g2⟩ := hst5.cells
      have hag : ∀ o : Obj, (w5.alloc o).cell? ⟨g, 1, none⟩ = some (.slice (some ⟨gc, 0, none⟩) gk cc) := fun o => (World.cell?_alloc_lt _ _ _ (World.block_lt_of_cell? w5 _ g1)).trans g1
      have HST5 := Aside0.mk hst5
      have HB5 := Aside0.mk hb5
      have HK5 := Aside0.mk hk5
      have HF5 := Aside0.mk hF
      have HLE := Aside0.mk hle
      have HJJ := Aside0.mk hj
      clear hst5 hb5 hk5 hF hle hj hw5 erd hgk HST HBR HKR hmk
      go_wp2_with fail
      go_cut [4] (fun v4 wc => ∃ cb, v4 = .pointer (some ⟨cb, 0, none⟩) ∧ Aside0 (w5.heap.size ≤ cb ∧ wc.cell? ⟨cb, 0, none⟩ = some (.int .i64 (rd_T67 C j).f0) ∧ wc.cell? ⟨cb, 1, none⟩ = some (.slice A0 (rd_T67 C j).f1.length c0)) ∧ Aside0 (Below w5.heap.size w5 wc))
      case first =>
        go_region
        all_goals
          go_wp2
          go_meet
          case rel =>
            have hn := heap_alloc_new w5 (.cells #[.int .i64 (rd_T67 C (j : Int)).f0, .slice A0 (rd_T67 C (j : Int)).f1.length c0] 67)
            exact ⟨w5.heap.size, rfl, ⟨Nat.le_refl _, cell_at hn 0, cell_at hn 1⟩, ⟨below_drew (below_alloc (Below.refl _ _) _)⟩⟩
      case rest =>
        obtain ⟨cb, rfl, HCB, HBC⟩ := hcut
        obtain ⟨wa, hwa⟩ : ∃ wa, wa = wc := ⟨wc, rfl⟩
        subst hwa
        have HST6 := Aside0.mk (HST5.out.below HBC.out)
        clear ha0 ha1 hag e0 e1 g0 g1 g2
        obtain ⟨g0, g1, g2⟩ := HST6.out.cells
        have hcut := cut_to (P := Try.prog) 37 67 .i64 Try.underlying37 hi1 (some ⟨gc, 0, none⟩) gk cc (j : Int) (by omega) (by have := HJJ.out; omega) (Kd.N_reads' HST6.out.c).2.1
        have hf := raw_free HST6.out.s 1
        go_wp2_with fail
        go_cut [4] (fun v4 wd => v4 = .pointer (some ⟨cb, 0, none⟩) ∧ Aside0 (wd = wa.drew.setCell ⟨g, 1, none⟩ (.slice (some ⟨gc, 0, none⟩) j cc)))
        case first =>
          go_region
          all_goals
            go_wp2
            go_meet
            case rel => exact ⟨rfl, ⟨rfl⟩⟩
        case rest =>
          obtain ⟨rfl, hwd⟩ := hcut
          obtain ⟨hs2, hg2⟩ := raw_set (w := wa.drew) (Kd.R_drew HST6.out.s) 1 (by omega) (u := .slice (some ⟨gc, 0, none⟩) j cc) rfl
          rw [← hwd.out] at hs2 hg2
          obtain ⟨h7, hk7⟩ := StV.cut (HST6.out.below (below_drew (Below.refl _ _))) (j := j) (by have := HJJ.out; have := HJ.out.1.1; rw [List.length_take]; omega) hs2 hg2
          have ett : (C.take gk).take j = C.take j := by have := HJJ.out; rw [List.take_take, Nat.min_eq_left (by omega)]
          rw [ett] at h7
          have hs6 : w5.heap.size ≤ wa.heap.size := HBC.out.size
          have hba : Below base w0 wa := HB5.out.trans (HBC.out.mono (Nat.le_trans HS.out HK5.out.1))
          have hbd : Below base w0 wc := (below_drew hba).grown hg2 (Nat.le_trans (Nat.le_trans HS.out HK5.out.1) hs6) (fun k e => by cases e; exact Kd.R_base HST6.out.s g (one_own g))
          have hkd : Kept w wc T := Kept.of_grown hg2 (Kept.drew (Kept.below HK5.out HBC.out)) (fun k e => by cases e; exact HST6.out.own.1)
          have hcbg : cb ≠ g := fun e => by have := HST5.out.lt.1; have := HCB.out.1; omega
          have hcc0 : wc.cell? ⟨cb, 0, none⟩ = some (.int .i64 (rd_T67 C (j : Int)).f0) := by
            rw [hwd.out, World.cell?_setCell_other _ _ _ _ (fun e => hcbg (congrArg Addr.block e).symm)]; exact HCB.out.2.1
          have hcc1 : wc.cell? ⟨cb, 1, none⟩ = some (.slice A0 (rd_T67 C (j : Int)).f1.length c0) := by
            rw [hwd.out, World.cell?_setCell_other _ _ _ _ (fun e => hcbg (congrArg Addr.block e).symm)]; exact HCB.out.2.2
          have hel := HC.out (rd_T67 C (j : Int)) (rd67_mem C j (by have h1 := HJJ.out; have h2 := HJ.out.1.1; omega))
          have hul := HJ.out.1.2
          obtain ⟨gl, capl, hgl, _⟩ := Kd.N_form h7.l (by omega)
          simp only [Value.slice.injEq] at hgl
          obtain ⟨rfl, _, rfl⟩ := hgl
          rw [← hul] at h7
          obtain ⟨⟨u7, hu7⟩, hf7⟩ := h7.dom_cell (rd_T67 C (j : Int)).f0 hel.1 (by omega)
          obtain ⟨l0, _, _⟩ := h7.cells
          rw [hul] at l0
          have p7 := eq_true hel.1
          have q7 := eq_true hel.2
          have q8 : ((rd_T67 C (j : Int)).f0 < ((undo L C gk).length : Int)) = True := eq_true (by omega)
          have HST7 := Aside0.mk h7
          have HBD := Aside0.mk hbd
          have HKD := Aside0.mk hkd
          have HEL := Aside0.mk hel
          have HUL := Aside0.mk hul
          have HG2 := Aside0.mk hg2
          have HD1 := Aside0.mk d1
          clear h7 hk7 hs2 hg2 hwd hba hbd hkd hel hul hcbg ett g0 g1 g2 hcut hf hs6
          go_wp2_with fail
          go_region
          all_goals
            go_wp2
            go_roundg j
            case measure => exact (by have := HJJ.out; omega)
            case rel =>
              have hF7 := Kd.F_drew (Kd.F_grown (Kd.F_drew (Kd.F_below HF5.out HBC.out)) HG2.out (fun k hk e => hk.2.1 (by simpa using e)))
              obtain ⟨h8, hk8, hg8⟩ := StV.put_dom (HST7.out.below (below_drew (Below.refl _ _))) (rd_T67 C (j : Int)).f0 HEL.out.1 (by have := HEL.out.2; have := HUL.out; omega) (A := A0) (n := (rd_T67 C (j : Int)).f1.length) (c := c0) (x := (rd_T67 C (j : Int)).f1) (fun W' hW => ⟨A0, c0, rfl, HLE.out, hF7 W' hW⟩)
                (fun k hk => ⟨⟨hk.1, hk.2.1, fun e => hk.2.2.2.1 (by simpa [Value.ownBlock] using e), hk.2.2.2.2⟩, fun e => hk.2.2.1 (by simpa [Value.ownBlock] using e)⟩)
              have ej := HJJ.out
              have eu : (undo L C gk).set (rd_T67 C (j : Int)).f0.toNat (rd_T67 C (j : Int)).f1 = undo L C j := by
                rw [undo_step L C j (by have := HJ.out.1.1; omega), ej]; rfl
              rw [eu, HUL.out] at h8
              have hm := of_decide_eq_true HD1.out
              refine ⟨⟨⟨by have := HJ.out.1.1; omega, undo_len _ _⟩, .inl (by omega)⟩, ⟨h8⟩, ⟨?_⟩, ⟨?_⟩⟩
              · exact (below_drew HBD.out).grown hg8 (Nat.le_trans HS.out HKD.out.1) (fun k e => by cases e; exact Kd.N_base HST7.out.l gl (by simp [Value.ownBlock]))
              · exact Kept.of_grown hg8 (Kept.drew HKD.out) (fun k e => by cases e; exact (HST7.out.own.2.1 gl (by simp [Value.ownBlock])).1)
    · have d1 : decide (m < (gk : Int)) = false := decide_eq_false hgk
      rw [d1]
      have hcm := (Kd.R_reads' HST.out.m).2.1
      have hcut := cut_to (P := Try.prog) 30 3 .i64 Try.underlying30 hi0 (some ⟨gm, 0, none⟩) n cm (t : Int) (by omega) (by have := HN.out; have := HT.out; omega) hcm
      have hf := raw_free HST.out.s 2
      have HGK := Aside0.mk hgk
      clear hgk hcm hmk
      go_wp2_with fail
      go_ret
      obtain ⟨hs2, hg2⟩ := raw_set (w := wr.drewN nq) (Kd.R_drewN HST.out.s nq) 2 (by omega) (u := .slice (some ⟨gm, 0, none⟩) t cm) rfl
      obtain ⟨h1, h2⟩ := StV.cutm (HST.out.below (pw_below_drewN (Below.refl _ _) nq)) (j := t) (by have := HT.out; simp; omega) hs2 hg2
      have et : (M ++ [m]).take t = M := by rw [HT.out]; simp
      have eu : undo L C gk = undo L C m.toNat ∧ C.take gk = C.take m.toNat := by
        have h3 := HGK.out
        have h4 := HM.out
        rcases HJ.out.2 with h5 | h5
        · rw [show m.toNat = gk by omega]; exact ⟨rfl, rfl⟩
        · subst h5
          unfold undo
          rw [List.drop_length, List.drop_of_length_le (by omega), List.take_length, List.take_of_length_le (by omega)]
          exact ⟨rfl, rfl⟩
      rw [et, eu.1, eu.2] at h1
      refine ⟨rfl, ⟨_, _, _, h1⟩, ?_, ?_⟩
      · exact (pw_below_drewN HBR.out nq).grown hg2 (Nat.le_trans HS.out HKR.out.1) (fun k e => by cases e; exact Kd.R_base HST.out.s g (one_own g))
      · exact Kept.of_grown hg2 (Kept.drewN HKR.out nq) (fun k e => by cases e; exact HST.out.own.1)
end
end Go.Proofs.Ytcjachhdoogbaaa.PT
