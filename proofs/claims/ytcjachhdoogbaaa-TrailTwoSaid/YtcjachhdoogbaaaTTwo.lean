/- TrailTwo: the law's walk: it answers true. No conditions. -/
import Derived.Test.YtcjachhdoogbaaaTCopy0
set_option linter.unusedVariables false
set_option linter.unusedSimpArgs false
namespace Go.Proofs.Ytcjachhdoogbaaa.PT
open Go.RowKit Go.Proofs.YtcjachhdoogbaaaW.PrintWords Go.Proofs.YtcjachhdoogbaaaW.PrintLast Go.Proofs.YtcjachhdoogbaaaW.PrintMore
/-- Another store beside: what changed is not its own. -/
theorem Stat.other {T S : Nat → Prop} {w0 w w' : World} {base g n : Nat} {L : List (List S62)} {C : List S67} {M : List Int} (h : Stat T w0 w base g L C M n) (hk : Kept w w' S) (hd : ∀ k, T k → ¬ S k) (hb : Below base w0 w') : Stat T w0 w' base g L C M n :=
  ⟨h.st.step (fun k hk1 hlt => hk.2 k hlt (hd k hk1)), hb, h.lo, fun k hk1 => Nat.lt_of_lt_of_le (h.hi k hk1) hk.1, Nat.le_trans h.size hk.1, h.good⟩
/-- A Set, with what it keeps. -/
theorem s_set3 {T : Nat → Prop} {w w0 : World} {base g n : Nat} {L : List (List S62)} {C : List S67} {M : List Int} (i : Int) (A : Option Addr) (c : Nat) (d : List S62) (h : Stat T w0 w base g L C M n) (hd : Held k62 T w A c d) (hdl : d.length ≤ 1000000) (hn : n ≤ 900000) :
    Calls Try.prog 14 #[.pointer (some ⟨g, 0, none⟩), .int .i64 i, .slice A d.length c] w fun e w' =>
      ∃ L' C' r T', e = .returned (.int .i64 r) ∧ setS KK L C i d = some (L', C', r) ∧ Stat T' w0 w' base g L' C' M (n + 1) ∧ Keeps w w' T T' ∧ Kept w w' T ∧ ∀ k, T' k → T k ∨ w.heap.size ≤ k := by
  obtain ⟨L', C', r, hs, _⟩ := setS_f KK L C i d (by rw [kk]; omega) h.good.dom hdl
  refine (set_calls (w0 := w0) KK i A c d (fun k => ¬ T k ∧ k < w.heap.size) L' C' r h.st h.below h.size hd.2 (fun k hk => hk.1) hd.1 (by have := h.good.few; omega) hdl hs).mono ?_
  rintro e w' ⟨rfl, hst, hb, hk⟩
  have hg := (setS_good (by rw [kk]; omega) h.good hdl hs).1
  refine ⟨L', C', r, fun k => (T k ∨ w.heap.size ≤ k) ∧ k < w'.heap.size, rfl, hs, ⟨hst.bound, hb, fun k hk => hk.1.elim (h.lo k) (fun h1 => Nat.le_trans h.size h1), fun k hk => hk.2, Nat.le_trans h.size hk.1, hg⟩, ?_, hk, fun k hk => hk.1⟩
  exact fun d A c l hl => ⟨hl.1, Kd.F_mono (Kd.F_kept hl.2 hk (fun k hk => hk.1)) (fun k hk2 => ⟨fun h1 => h1.1.elim hk2.1 (fun h2 => absurd hk2.2 (Nat.not_lt.2 h2)), Nat.lt_of_lt_of_le hk2.2 hk.1⟩)⟩
set_option maxRecDepth 100000
set_option maxHeartbeats 4000000
theorem two_calls (A0 : Option Addr) (c0 : Nat) (l0 : List (List Int)) (A1 : Option Addr) (c1 : Nat) (l1 : List S33) (w : World) (hr0 : Kd.C kI w A0 l0.length l0) (hc0 : l0.length ≤ c0) (hr1 : Kd.C k33 w A1 l1.length l1) (hc1 : l1.length ≤ c1) :
    Calls Try.prog 9 #[.slice A0 l0.length c0, .slice A1 l1.length c1] w fun e w' => e = .returned (.bool true) ∧ Below w.heap.size w w' := by
  have HR0 := Aside0.mk hr0
  have HC0 := Aside0.mk hc0
  have HR1 := Aside0.mk hr1
  have HC1 := Aside0.mk hc1
  clear hr0 hc0 hr1 hc1
  have hu25 := Try.underlying25
  have hu3 := Try.underlying3
  go_enter Try.func9, Try.ntmps9
  go_wp2_with fail
  refine (s_doms A0 c0 l0 w HR0.out HC0.out).mono ?_
  rintro e w1 ⟨AD, cD, D, rfl, hf, hg, _, hb⟩
  have HB1 := Aside0.mk hb
  have HF := Aside0.mk hf
  have HG := Aside0.mk hg
  clear hb hf hg
  go_wp2_with fail
  refine (s_new AD cD D w1 (Kd.F_now HF.out.2) HF.out.1 HG.out).mono ?_
  rintro e w2 ⟨g, T2, rfl, hs⟩
  have HS2 := Aside0.mk hs
  clear hs
  clear HF HR0 HC0
  go_wp2_with fail
  refine (s_mark HS2.out (by decide)).mono ?_
  rintro e w3 ⟨T, rfl, hs, _⟩
  have HS3 := Aside0.mk hs
  clear hs HS2
  go_wp2_with fail
  refine (copy0_calls rfl HS3.out.st (fun x hx => by have := HS3.out.good.small x hx; omega) ⟨by have := HS3.out.good.len; omega, by decide, by decide⟩).mono ?_
  rintro e w4 ⟨hb4, gc, rfl, hsc⟩
  have hxc : Stat (fun k => w3.heap.size ≤ k ∧ k < w4.heap.size) w3 w4 w3.heap.size gc D [] [0] 0 := ⟨hsc.bound, hb4, fun k hk => hk.1, fun k hk => hk.2, hb4.size, HG.out⟩
  have HC4 := Aside0.mk hxc
  have HS4 := Aside0.mk (HS3.out.read hb4)
  have HAP := Aside0.mk (show ∀ k, T k → k < w3.heap.size from HS3.out.hi)
  have HW13 := Aside0.mk (show w1.heap.size ≤ w3.heap.size from HS3.out.size)
  have HB14 := Aside0.mk (show Below w1.heap.size w1 w3 from HS3.out.below)
  have HH4 := Aside0.mk ((((Held.of_C (T := fun k => w3.heap.size ≤ k ∧ k < w4.heap.size) heap33 HR1.out HC1.out (base := w3.heap.size) (fun k hk => hk.1) (Nat.le_trans HB1.out.size HS3.out.size)).below HB1.out).below HS3.out.below).below hb4)
  clear hb4 hsc hxc HS3 HR1 HC1
  go_wp2_with fail
  refine (s_all HS4.out).mono ?_
  rintro e w5 ⟨Aw, cw, rfl, hf, hb⟩
  have HC5 := Aside0.mk (HC4.out.read hb)
  have HS5 := Aside0.mk (HS4.out.read hb)
  have HW5 := Aside0.mk (hf.held (T := fun k => w3.heap.size ≤ k ∧ k < w4.heap.size) HC4.out.hi)
  have HH5 := Aside0.mk (HH4.out.below hb)
  clear hf hb HC4 HS4 HH4
  go_wp2_with fail
  go_loopg [9] (min l1.length 20) (fun j v9 wr => ∃ q : Nat, v9 = .int .i64 (q : Int) ∧ Aside0 (q + j = min l1.length 20) ∧ Aside0 (∃ L C Tc, Stat Tc w3 wr w3.heap.size gc L C [0] q ∧ (undo L C 0 = D) ∧ Stat T w1 wr w1.heap.size g D [] [0] 0 ∧ Held k33 Tc wr A1 c1 l1 ∧ Held kL Tc wr Aw cw D))
  case atStart => exact ⟨0, rfl, ⟨Nat.zero_add _⟩, ⟨D, [], _, HC5.out, rfl, HS5.out, HH5.out, HW5.out⟩⟩
  case round =>
    obtain ⟨q, rfl, HI, HX⟩ := hrel
    obtain ⟨L, C, Tc, hc, hu, hs, hh, hw⟩ := HX.out
    have HC := Aside0.mk hc
    have HU := Aside0.mk hu
    have HS := Aside0.mk hs
    have HH := Aside0.mk hh
    have HW := Aside0.mk hw
    clear hc hu hs hh hw HX
    by_cases hlt : q < l1.length
    · by_cases h40 : q < 20
      · have hi1 : (q : Int) < (l1.length : Int) := by omega
        obtain ⟨ad, A2, c2, A3, c3, e, hx0, hx1, hx2, hx3, hh2, hh3⟩ := at_H33 HH.out (q : Int) (by omega) hi1
        cases e
        rw [Int.toNat_natCast] at hx0 hx1 hx2 hx3
        have H2 := Aside0.mk hh2
        have q1 := eq_true hi1
        have q2 := eq_true hlt
        have q3 : decide ((q : Int) < (l1.length : Int)) = true := decide_eq_true hi1
        have q4 : decide ((q : Int) < 20) = true := decide_eq_true (by omega)
        have q5 := eq_true h40
        obtain ⟨j, hj⟩ : ∃ j, gk = j + 1 := ⟨gk - 1, by have := HI.out; omega⟩
        have HJ := Aside0.mk hj
        have HI40 := Aside0.mk h40
        obtain ⟨kv, hkv, hk0, hk7⟩ := and_seven (rd_T33 l1 (q : Int)).f1
        have HBN := Aside0.mk (show ¬ Tc (ad.add (q * 4)).block from by rw [at_block]; exact at_H33n HH.out (by omega))
        clear hj hx0 hx3 hh2 hh3 hk0 hk7
        go_wp2_with fail
        have hS0 : (World.drew wr).cell? ⟨(ad.add (q * 4)).block, (ad.add (q * 4)).off + 2, none⟩ = some (.slice A2 (rd_T33 l1 (q : Int)).f2.length c2) := hx2
        have HC0 := Aside0.mk (HC.out.read (below_drew (Below.refl wr.heap.size wr)))
        have HS0 := Aside0.mk (HS.out.read (below_drew (Below.refl wr.heap.size wr)))
        have HH0 := Aside0.mk (HH.out.below (below_drew (Below.refl wr.heap.size wr)))
        have HW0 := Aside0.mk (HW.out.below (below_drew (Below.refl wr.heap.size wr)))
        have HD0 := Aside0.mk (H2.out.below (below_drew (Below.refl wr.heap.size wr)))
        clear hx1 hx2 HC HS HH HW H2
        refine wp_region_held_drew (S := (fun W => W.cell? ⟨(ad.add (q * 4)).block, (ad.add (q * 4)).off + 2, none⟩ = some (.slice A2 (rd_T33 l1 (q : Int)).f2.length c2))) (by kernel_rfl) hS0 (fun hHeld => ?_)
        refine wpAnyH_take (i := 0) (v := ?_) rfl (by kernel_rfl) (by kernel_rfl) (by kernel_rfl) (fun _ _ _ h => h) (Or.inl ⟨by rfl, ?_⟩) (by assumption) ?_
        rotate_left
        · (intro w hSw; (try dsimp only at hSw); go_simp; all_goals (with_reducible rfl))
        try simp only [Act.put, List.setIfInBounds_toArray, List.set_cons_zero, List.set_cons_succ, List.getElem_toArray, List.getElem_cons_zero, List.getElem_cons_succ]
        refine wpAnyH_take (i := 1) (v := ?_) rfl (by kernel_rfl) (by kernel_rfl) (by kernel_rfl) (fun _ _ _ h => h) (Or.inl ⟨by rfl, ?_⟩) (by assumption) ?_
        rotate_left
        · (intro w hSw; (try dsimp only at hSw); go_simp; all_goals (with_reducible rfl))
        try simp only [Act.put, List.setIfInBounds_toArray, List.set_cons_zero, List.set_cons_succ, List.getElem_toArray, List.getElem_cons_zero, List.getElem_cons_succ]
        refine wpAnyH_take (i := 2) (v := ?_) rfl (by kernel_rfl) (by kernel_rfl) (by kernel_rfl) (fun _ _ _ h => h) (Or.inl ⟨by rfl, ?_⟩) (by assumption) ?_
        rotate_left
        · (intro w hSw; (try dsimp only at hSw); go_simp; all_goals (with_reducible rfl))
        try simp only [Act.put, List.setIfInBounds_toArray, List.set_cons_zero, List.set_cons_succ, List.getElem_toArray, List.getElem_cons_zero, List.getElem_cons_succ]
        refine wpAnyH_take (i := 3) (v := ?_) rfl (by kernel_rfl) (by kernel_rfl) (by kernel_rfl) (fun _ _ _ h => h) (Or.inl ⟨by rfl, ?_⟩) (by assumption) ?_
        rotate_left
        · (intro w hSw; (try dsimp only at hSw); go_simp; all_goals (with_reducible rfl))
        try simp only [Act.put, List.setIfInBounds_toArray, List.set_cons_zero, List.set_cons_succ, List.getElem_toArray, List.getElem_cons_zero, List.getElem_cons_succ]
        refine wpAnyH_take (i := 4) (v := ?_) rfl (by kernel_rfl) (by kernel_rfl) (by kernel_rfl) (fun _ _ _ h => h) (Or.inl ⟨by rfl, ?_⟩) (by assumption) ?_
        rotate_left
        · (intro w hSw; (try dsimp only at hSw); go_simp; all_goals (with_reducible rfl))
        try simp only [Act.put, List.setIfInBounds_toArray, List.set_cons_zero, List.set_cons_succ, List.getElem_toArray, List.getElem_cons_zero, List.getElem_cons_succ]
        refine wpAnyH_take (i := 5) (v := ?_) rfl (by kernel_rfl) (by kernel_rfl) (by kernel_rfl) (fun _ _ _ h => h) (Or.inl ⟨by rfl, ?_⟩) (by assumption) ?_
        rotate_left
        · (intro w hSw; (try dsimp only at hSw); go_simp; all_goals (with_reducible rfl))
        try simp only [Act.put, List.setIfInBounds_toArray, List.set_cons_zero, List.set_cons_succ, List.getElem_toArray, List.getElem_cons_zero, List.getElem_cons_succ]
        refine wpAnyH_take (i := 7) (v := ?_) rfl (by kernel_rfl) (by kernel_rfl) (by kernel_rfl) (fun _ _ _ h => h) (Or.inl ⟨by rfl, ?_⟩) (by assumption) ?_
        rotate_left
        · (intro w hSw; (try dsimp only at hSw); go_simp; all_goals (with_reducible rfl))
        try simp only [Act.put, List.setIfInBounds_toArray, List.set_cons_zero, List.set_cons_succ, List.getElem_toArray, List.getElem_cons_zero, List.getElem_cons_succ]
        refine wpAnyH_take (i := 8) (v := ?_) rfl (by kernel_rfl) (by kernel_rfl) (by kernel_rfl) (fun _ _ _ h => h) (Or.inl ⟨by rfl, ?_⟩) (by assumption) ?_
        rotate_left
        · (intro w hSw; (try dsimp only at hSw); go_simp; all_goals (with_reducible rfl))
        try simp only [Act.put, List.setIfInBounds_toArray, List.set_cons_zero, List.set_cons_succ, List.getElem_toArray, List.getElem_cons_zero, List.getElem_cons_succ]
        refine wpAnyH_take (i := 9) (v := ?_) rfl (by kernel_rfl) (by kernel_rfl) (by kernel_rfl) (fun _ _ _ h => h) (Or.inl ⟨by rfl, ?_⟩) (by assumption) ?_
        rotate_left
        · (intro w hSw; (try dsimp only at hSw); go_simp; all_goals (with_reducible rfl))
        try simp only [Act.put, List.setIfInBounds_toArray, List.set_cons_zero, List.set_cons_succ, List.getElem_toArray, List.getElem_cons_zero, List.getElem_cons_succ]
        refine wpAnyH_take (i := 10) (v := ?_) rfl (by kernel_rfl) (by kernel_rfl) (by kernel_rfl) (fun _ _ _ h => h) (Or.inl ⟨by rfl, ?_⟩) (by assumption) ?_
        rotate_left
        · (intro w hSw; (try dsimp only at hSw); go_simp; all_goals (with_reducible rfl))
        try simp only [Act.put, List.setIfInBounds_toArray, List.set_cons_zero, List.set_cons_succ, List.getElem_toArray, List.getElem_cons_zero, List.getElem_cons_succ]
        refine wpAnyH_take (i := 11) (v := ?_) rfl (by kernel_rfl) (by kernel_rfl) (by kernel_rfl) (fun _ _ _ h => h) (Or.inl ⟨by rfl, ?_⟩) (by assumption) ?_
        rotate_left
        · (intro w hSw; (try dsimp only at hSw); go_simp; all_goals (with_reducible rfl))
        try simp only [Act.put, List.setIfInBounds_toArray, List.set_cons_zero, List.set_cons_succ, List.getElem_toArray, List.getElem_cons_zero, List.getElem_cons_succ]
        refine wpAnyH_ready (rs := [6]) (by kernel_rfl) (by simp) ?_
        refine AllReadyH.cons rfl (fun K hK => ?_) AllReadyH.nil
        go_simp
        go_at_call 12
        refine (s_get kv HC0.out).mono ?_
        rintro e w5 ⟨Ag, cg, rfl, hf, hb⟩
        have HG5 := Aside0.mk (hf.held HC0.out.hi)
        have hS5 : w5.cell? ⟨(ad.add (q * 4)).block, (ad.add (q * 4)).off + 2, none⟩ = some (.slice A2 (rd_T33 l1 (q : Int)).f2.length c2) := (hb.cell (World.block_lt_of_cell? (World.drew wr) _ hS0)).trans hS0
        have HC5 := Aside0.mk (HC0.out.read hb)
        have HS5 := Aside0.mk (HS0.out.read hb)
        have HH5 := Aside0.mk (HH0.out.below hb)
        have HW5 := Aside0.mk (HW0.out.below hb)
        have HD5 := Aside0.mk (HD0.out.below hb)
        clear hf hb
        go_wp2_with fail
        refine hK.out _ _ hS5 (fun hHeld => ?_)
        clear hK K
        try simp only [Act.put, List.setIfInBounds_toArray, List.set_cons_zero, List.set_cons_succ, List.getElem_toArray, List.getElem_cons_zero, List.getElem_cons_succ]
        refine wpAnyH_ready (rs := [12]) (by kernel_rfl) (by simp) ?_
        refine AllReadyH.cons rfl (fun K hK => ?_) AllReadyH.nil
        go_simp
        go_at_call 15
        refine (s_small A2 c2 _ w5 HD5.out.now HD5.out.1).mono ?_
        rintro e w6 ⟨Ad, cd, d, rfl, hf, hdom, hdl, hb⟩
        have HE6 := Aside0.mk (hf.held HC5.out.hi)
        have HDOM := Aside0.mk hdom
        have hS6 : w6.cell? ⟨(ad.add (q * 4)).block, (ad.add (q * 4)).off + 2, none⟩ = some (.slice A2 (rd_T33 l1 (q : Int)).f2.length c2) := (hb.cell (World.block_lt_of_cell? (w5) _ hS5)).trans hS5
        have HC6 := Aside0.mk (HC5.out.read hb)
        have HS6 := Aside0.mk (HS5.out.read hb)
        have HH6 := Aside0.mk (HH5.out.below hb)
        have HW6 := Aside0.mk (HW5.out.below hb)
        have HG6 := Aside0.mk (HG5.out.below hb)
        clear hf hb hdom hdl
        go_wp2_with fail
        refine hK.out _ _ hS6 (fun hHeld => ?_)
        clear hK K
        try simp only [Act.put, List.setIfInBounds_toArray, List.set_cons_zero, List.set_cons_succ, List.getElem_toArray, List.getElem_cons_zero, List.getElem_cons_succ]
        refine wpAnyH_ready (rs := [13]) (by kernel_rfl) (by simp) ?_
        refine AllReadyH.cons rfl (fun K hK => ?_) AllReadyH.nil
        go_simp
        go_at_call 17
        refine (s_pick Ag cg (getL L kv) Ad cd d true w6 HG6.out.now HG6.out.1 HE6.out.now HE6.out.1 (getL_dom L HC6.out.good.dom kv) HDOM.out).mono ?_
        rintro e w7 ⟨Ap, cp, dp, rfl, hf, hpl, _, hb⟩
        have HP7 := Aside0.mk (hf.held HC6.out.hi)
        have HPL := Aside0.mk hpl
        have hS7 : w7.cell? ⟨(ad.add (q * 4)).block, (ad.add (q * 4)).off + 2, none⟩ = some (.slice A2 (rd_T33 l1 (q : Int)).f2.length c2) := (hb.cell (World.block_lt_of_cell? (w6) _ hS6)).trans hS6
        have HC7 := Aside0.mk (HC6.out.read hb)
        have HS7 := Aside0.mk (HS6.out.read hb)
        have HH7 := Aside0.mk (HH6.out.below hb)
        have HW7 := Aside0.mk (HW6.out.below hb)
        clear hf hb hpl
        go_wp2_with fail
        refine hK.out _ _ hS7 (fun hHeld => ?_)
        clear hK K
        try simp only [Act.put, List.setIfInBounds_toArray, List.set_cons_zero, List.set_cons_succ, List.getElem_toArray, List.getElem_cons_zero, List.getElem_cons_succ]
        refine wpAnyH_ready (rs := [14]) (by kernel_rfl) (by simp) ?_
        refine AllReadyH.cons rfl (fun K hK => ?_) AllReadyH.nil
        go_simp
        go_at_call 14
        refine (s_set3 (w0 := w3) kv Ap cp dp HC7.out HP7.out (by have := HPL.out; omega) (by have := HI40.out; omega)).mono ?_
        rintro e w8 ⟨L', C', r, T8, rfl, hset, hs8, hk8, hkk, hsub⟩
        have hS8 : w8.cell? ⟨(ad.add (q * 4)).block, (ad.add (q * 4)).off + 2, none⟩ = some (.slice A2 (rd_T33 l1 (q : Int)).f2.length c2) := kept_cell hkk HBN.out hS7
        have HC8 := Aside0.mk hs8
        have HW8 := Aside0.mk (hk8 _ _ _ _ HW7.out)
        have HH8 := Aside0.mk (hk8 _ _ _ _ HH7.out)
        have HS8 := Aside0.mk (HS7.out.other hkk (fun k h1 h2 => absurd (HC7.out.lo k h2) (Nat.not_le.2 (HAP.out k h1))) (HB14.out.trans (hs8.below.mono HW13.out)))
        have HU8 := Aside0.mk (((setS_good (by rw [kk]; omega) HC7.out.good (by have := HPL.out; omega) hset).2.2.1 0 (Nat.zero_le _)).trans HU.out)
        clear hs8 hk8 hkk hset hsub
        go_wp2_with fail
        refine hK.out _ _ hS8 (fun hHeld => ?_)
        clear hK K
        try simp only [Act.put, List.setIfInBounds_toArray, List.set_cons_zero, List.set_cons_succ, List.getElem_toArray, List.getElem_cons_zero, List.getElem_cons_succ]
        refine wpAnyH_done (by kernel_rfl) ?_ _
        go_wp2
        go_roundg j
        case measure => have := HJ.out; omega
        case rel =>
          have e0 := HI.out
          have e1 := HJ.out
          exact ⟨q + 1, by simp, ⟨by omega⟩, ⟨L', C', T8, HC8.out, HU8.out, HS8.out, HH8.out, HW8.out⟩⟩
      · have q3 : decide ((q : Int) < (l1.length : Int)) = true := decide_eq_true (by omega)
        have q4 : decide ((q : Int) < 20) = false := decide_eq_false (by omega)
        have q1 := eq_true (show (q : Int) < (l1.length : Int) by omega)
        have q2 := eq_true hlt
        have q5 := eq_false h40
        have HQ := Aside0.mk (show q ≤ 20 by have := HI.out; omega)
        clear hlt h40
        go_wp2_with fail
        refine (s_all HS.out).mono ?_
        rintro e wa ⟨Aa, ca, rfl, hf, hb⟩
        have HFa := Aside0.mk (hf.held (T := Tc) HC.out.hi)
        have HCa := Aside0.mk (HC.out.read hb)
        have HSa := Aside0.mk (HS.out.read hb)
        have HWa := Aside0.mk (HW.out.below hb)
        clear hf hb HC HS HW HH
        go_wp2_with fail
        refine (s_lsame Aa ca D Aw cw D wa HFa.out.now HFa.out.1 HWa.out.now HWa.out.1 (by have := HG.out.len; omega) HG.out.small).mono ?_
        rintro e wb ⟨rfl, hb⟩
        rw [decide_eq_true (rfl : D = D)]
        have HCb := Aside0.mk (HCa.out.read hb)
        have HSb := Aside0.mk (HSa.out.read hb)
        have HWb := Aside0.mk (HWa.out.below hb)
        clear hb HCa HSa HWa HFa
        go_wp2_with fail
        refine (s_changes HSb.out).mono ?_
        rintro e wc ⟨rfl, hb⟩
        have HCc := Aside0.mk (HCb.out.read hb)
        have HSc := Aside0.mk (HSb.out.read hb)
        have HWc := Aside0.mk (HWb.out.below hb)
        clear hb HCb HSb HWb
        go_wp2_with fail
        refine (s_level HSc.out).mono ?_
        rintro e wd ⟨rfl, hb⟩
        have HCd := Aside0.mk (HCc.out.read hb)
        have HWd := Aside0.mk (HWc.out.below hb)
        clear hb HCc HSc HWc
        go_wp2_with fail
        refine (s_level HCd.out).mono ?_
        rintro e we ⟨rfl, hb⟩
        have HCe := Aside0.mk (HCd.out.read hb)
        have HWe := Aside0.mk (HWd.out.below hb)
        clear hb HCd HWd
        go_wp2_with fail
        refine (s_back (M := []) 0 HCe.out (by decide) (by decide) (by have := HQ.out; omega)).mono ?_
        rintro e wf ⟨Tf, rfl, hs, hk⟩
        have hs2 : Stat Tf w3 wf w3.heap.size gc (undo L C 0) [] [] q := hs
        rw [HU.out] at hs2
        have HCf := Aside0.mk hs2
        have HWf := Aside0.mk (hk _ _ _ _ HWe.out)
        clear hs hs2 hk HCe HWe
        go_wp2_with fail
        refine (s_all HCf.out).mono ?_
        rintro e wg ⟨Ag, cg, rfl, hf, hb⟩
        have HFg := Aside0.mk (hf.held HCf.out.hi)
        have HCg := Aside0.mk (HCf.out.read hb)
        have HWg := Aside0.mk (HWf.out.below hb)
        clear hf hb HCf HWf
        go_wp2_with fail
        refine (s_lsame Ag cg D Aw cw D wg HFg.out.now HFg.out.1 HWg.out.now HWg.out.1 (by have := HG.out.len; omega) HG.out.small).mono ?_
        rintro e wh ⟨rfl, hb⟩
        rw [decide_eq_true (rfl : D = D)]
        have HCh := Aside0.mk (HCg.out.read hb)
        clear hb HCg HWg HFg
        go_wp2_with fail
        refine (s_changes HCh.out).mono ?_
        rintro e wi ⟨rfl, hb⟩
        have HCi := Aside0.mk (HCh.out.read hb)
        clear hb HCh
        go_wp2_with fail
        refine (fixed_calls wi).mono ?_
        rintro e wj ⟨rfl, hb⟩
        have HBF := Aside0.mk (HCi.out.read hb).below
        go_wp2
        go_ret
        exact ⟨rfl, HB1.out.trans ((HB14.out.trans (HBF.out.mono HW13.out)).mono HB1.out.size)⟩
    · have q3 : decide ((q : Int) < (l1.length : Int)) = false := decide_eq_false (by omega)
      have q1 := eq_false (show ¬ (q : Int) < (l1.length : Int) by omega)
      have q2 := eq_false hlt
      have HQ := Aside0.mk (show q ≤ 20 by have := HI.out; omega)
      clear hlt
      go_wp2_with fail
      refine (s_all HS.out).mono ?_
      rintro e wa ⟨Aa, ca, rfl, hf, hb⟩
      have HFa := Aside0.mk (hf.held (T := Tc) HC.out.hi)
      have HCa := Aside0.mk (HC.out.read hb)
      have HSa := Aside0.mk (HS.out.read hb)
      have HWa := Aside0.mk (HW.out.below hb)
      clear hf hb HC HS HW HH
      go_wp2_with fail
      refine (s_lsame Aa ca D Aw cw D wa HFa.out.now HFa.out.1 HWa.out.now HWa.out.1 (by have := HG.out.len; omega) HG.out.small).mono ?_
      rintro e wb ⟨rfl, hb⟩
      rw [decide_eq_true (rfl : D = D)]
      have HCb := Aside0.mk (HCa.out.read hb)
      have HSb := Aside0.mk (HSa.out.read hb)
      have HWb := Aside0.mk (HWa.out.below hb)
      clear hb HCa HSa HWa HFa
      go_wp2_with fail
      refine (s_changes HSb.out).mono ?_
      rintro e wc ⟨rfl, hb⟩
      have HCc := Aside0.mk (HCb.out.read hb)
      have HSc := Aside0.mk (HSb.out.read hb)
      have HWc := Aside0.mk (HWb.out.below hb)
      clear hb HCb HSb HWb
      go_wp2_with fail
      refine (s_level HSc.out).mono ?_
      rintro e wd ⟨rfl, hb⟩
      have HCd := Aside0.mk (HCc.out.read hb)
      have HWd := Aside0.mk (HWc.out.below hb)
      clear hb HCc HSc HWc
      go_wp2_with fail
      refine (s_level HCd.out).mono ?_
      rintro e we ⟨rfl, hb⟩
      have HCe := Aside0.mk (HCd.out.read hb)
      have HWe := Aside0.mk (HWd.out.below hb)
      clear hb HCd HWd
      go_wp2_with fail
      refine (s_back (M := []) 0 HCe.out (by decide) (by decide) (by have := HQ.out; omega)).mono ?_
      rintro e wf ⟨Tf, rfl, hs, hk⟩
      have hs2 : Stat Tf w3 wf w3.heap.size gc (undo L C 0) [] [] q := hs
      rw [HU.out] at hs2
      have HCf := Aside0.mk hs2
      have HWf := Aside0.mk (hk _ _ _ _ HWe.out)
      clear hs hs2 hk HCe HWe
      go_wp2_with fail
      refine (s_all HCf.out).mono ?_
      rintro e wg ⟨Ag, cg, rfl, hf, hb⟩
      have HFg := Aside0.mk (hf.held HCf.out.hi)
      have HCg := Aside0.mk (HCf.out.read hb)
      have HWg := Aside0.mk (HWf.out.below hb)
      clear hf hb HCf HWf
      go_wp2_with fail
      refine (s_lsame Ag cg D Aw cw D wg HFg.out.now HFg.out.1 HWg.out.now HWg.out.1 (by have := HG.out.len; omega) HG.out.small).mono ?_
      rintro e wh ⟨rfl, hb⟩
      rw [decide_eq_true (rfl : D = D)]
      have HCh := Aside0.mk (HCg.out.read hb)
      clear hb HCg HWg HFg
      go_wp2_with fail
      refine (s_changes HCh.out).mono ?_
      rintro e wi ⟨rfl, hb⟩
      have HCi := Aside0.mk (HCh.out.read hb)
      clear hb HCh
      go_wp2_with fail
      refine (fixed_calls wi).mono ?_
      rintro e wj ⟨rfl, hb⟩
      have HBF := Aside0.mk (HCi.out.read hb).below
      go_wp2
      go_ret
      exact ⟨rfl, HB1.out.trans ((HB14.out.trans (HBF.out.mono HW13.out)).mono HB1.out.size)⟩
end Go.Proofs.Ytcjachhdoogbaaa.PT
