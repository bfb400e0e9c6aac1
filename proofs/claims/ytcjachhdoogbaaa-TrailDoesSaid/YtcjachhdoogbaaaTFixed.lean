/- fixed: calls whose answers are fixed. No conditions. -/
import Derived.Test.YtcjachhdoogbaaaTPlain
set_option linter.unusedVariables false
set_option linter.unusedSimpArgs false
namespace Go.Proofs.Ytcjachhdoogbaaa.PT
open Go.RowKit Go.Proofs.YtcjachhdoogbaaaW.PrintWords Go.Proofs.YtcjachhdoogbaaaW.PrintLast Go.Proofs.YtcjachhdoogbaaaW.PrintMore
theorem lit62 (w : World) (a b : Int) : Kd.R k62 62 (w.alloc (.cells #[.int .i64 a, .int .i64 b] 62)) w.heap.size (fun k => k = w.heap.size) (.slice (some ⟨w.heap.size, 0, none⟩) 1 1) [(⟨a, b⟩ : S62)] := by
  refine ⟨fun k hk => ?_, ?_⟩
  · have : w.heap.size = k := by simpa [Value.ownBlock] using hk
    exact this.symm
  · refine OwnRow.lit (ps := [(⟨a, b⟩ : S62)]) (inner := [.int .i64 a, .int .i64 b]) w w.heap.size ⟨rfl, fun m p hm => ?_⟩ (Nat.le_refl _) (by simp)
    rcases m with _ | m
    · have e : (⟨a, b⟩ : S62) = p := Option.some.inj hm
      rw [← e]; exact k62_mkM _ _ _ _
    · simp at hm
theorem litL (w : World) (A : Option Addr) (c : Nat) (l : List S62) (hl : l.length ≤ c) (hc : Kd.C k62 w A l.length l) : Kd.C kL (w.alloc (.cells #[.slice A l.length c] 31)) (some ⟨w.heap.size, 0, none⟩) 1 [l] := by
  have h := OwnRow.lit (R := fun x cs => kL.K (w.alloc (.cells #[.slice A l.length c] 31)) x cs) (e := 31) (size := 1) (ps := [l]) (inner := [.slice A l.length c]) w 0 ⟨rfl, fun m p hm => by
    rcases m with _ | m
    · have e : l = p := Option.some.inj hm
      subst e
      exact ⟨A, c, rfl, hl, Kd.C_alloc hc _⟩
    · simp at hm⟩ (Nat.zero_le _) (by simp)
  obtain ⟨A', c', e, _, h2⟩ := h.reads
  cases e
  exact h2
theorem fix_new : newS 50 [[(⟨1, 5⟩ : S62)]] = some 0 := by with_unfolding_all rfl
theorem fix_new2 : newS 50 [[(⟨2, 1⟩ : S62)]] = some 20 := by with_unfolding_all rfl
theorem fix_same : secateurref02_Same.f 50 [(⟨1, 5⟩ : S62)] [(⟨1, 5⟩ : S62)] = some true := by with_unfolding_all rfl
theorem fix_set1 : setS 50 [[(⟨1, 5⟩ : S62)]] [] 0 [(⟨2, 3⟩ : S62)] = some ([[(⟨2, 3⟩ : S62)]], [(⟨0, [(⟨1, 5⟩ : S62)]⟩ : S67)], 0) := by with_unfolding_all rfl
theorem fix_set2 : setS 50 [[(⟨2, 3⟩ : S62)]] [(⟨0, [(⟨1, 5⟩ : S62)]⟩ : S67)] 0 [(⟨1, 1⟩ : S62)] = some ([[(⟨2, 3⟩ : S62)]], [(⟨0, [(⟨1, 5⟩ : S62)]⟩ : S67)], 1) := by with_unfolding_all rfl
theorem fix_set3 : setS 50 [[(⟨1, 5⟩ : S62)]] [] 1 [] = some ([[(⟨1, 5⟩ : S62)]], [], 1) := by with_unfolding_all rfl
/-- A store of territory from base on. -/
def Sto (w : World) (base g : Nat) (L : List (List S62)) (C : List S67) (M : List Int) : Prop := base ≤ w.heap.size ∧ St (fun k => base ≤ k ∧ k < w.heap.size) w base g L C M
theorem St.tidy {T : Nat → Prop} {w' : World} {base g : Nat} {L : List (List S62)} {C : List S67} {M : List Int} (h : St T w' base g L C M) (hT : ∀ k, T k → base ≤ k) (hw : base ≤ w'.heap.size) : Sto w' base g L C M := ⟨hw, (h.mono (T' := fun k => base ≤ k) hT).bound⟩
section
variable {T : Nat → Prop} {w w0 w' : World} {base g : Nat} {L : List (List S62)} {C : List S67} {M : List Int}
theorem Sto.below (h : Sto w base g L C M) (hb : Below w.heap.size w w') : Sto w' base g L C M := ⟨Nat.le_trans h.1 hb.size, (h.2.below hb).mono (fun k hk => ⟨hk.1, Nat.lt_of_lt_of_le hk.2 hb.size⟩)⟩
theorem below_size (hb : Below base w0 w) (h : base ≤ w0.heap.size) : base ≤ w.heap.size := Nat.le_trans h hb.size
theorem sto_mark (h : Sto w base g L C M) (hB : Below base w0 w) (hM : M.length ≤ 1000000) : Calls Try.prog 23 #[.pointer (some ⟨g, 0, none⟩)] w fun e w' => e = .returned (.tuple #[]) ∧ Sto w' base g L C (M ++ [(C.length : Int)]) ∧ Below base w0 w' :=
  (mark_calls h.2 hB h.1 hM).mono (fun e w' hh => ⟨hh.1, hh.2.1.tidy (fun k hk => hk.elim (fun h => h.1) (fun hk => Nat.le_trans h.1 hk)) (Nat.le_trans h.1 hh.2.2.2.1), hh.2.2.1⟩)
theorem sto_back (m : Int) (h : Sto w base g L C (M ++ [m])) (hB : Below base w0 w) (hm : 0 ≤ m) (hC : ∀ c ∈ C, 0 ≤ c.f0 ∧ c.f0 < L.length) (hbig : M.length ≤ 1000000 ∧ C.length ≤ 1000000) :
    Calls Try.prog 25 #[.pointer (some ⟨g, 0, none⟩)] w fun e w' => e = .returned (.int .i64 0) ∧ Sto w' base g (undo L C m.toNat) (C.take m.toNat) M ∧ Below base w0 w' :=
  (back_calls m h.2 hB h.1 hm hC hbig).mono (fun e w' hh => ⟨hh.1, hh.2.1.tidy (fun k hk => hk.elim (fun h => h.1) (fun hk => Nat.le_trans h.1 hk)) (Nat.le_trans h.1 hh.2.2.2.1), hh.2.2.1⟩)
theorem sto_set (k : Nat) (i : Int) (A : Option Addr) (c : Nat) (d : List S62) (okd : Nat → Prop) (L' : List (List S62)) (C' : List S67) (r : Int) (hT : ∀ k, T k → base ≤ k) (h : St T w base g L C M) (hB : Below base w0 w) (hbase : base ≤ w.heap.size)
    (hd : Kd.F k62 w okd A d.length d) (hap : ∀ k, okd k → ¬ T k) (hdc : d.length ≤ c) (hC : C.length ≤ 1000000) (hdl : d.length ≤ 1000000) (hr : setS k L C i d = some (L', C', r)) :
    Calls Try.prog 14 #[.pointer (some ⟨g, 0, none⟩), .int .i64 i, .slice A d.length c] w fun e w' => e = .returned (.int .i64 r) ∧ Sto w' base g L' C' M ∧ Below base w0 w' :=
  (set_calls k i A c d okd L' C' r h hB hbase hd hap hdc hC hdl hr).mono (fun e w' hh => ⟨hh.1, hh.2.1.tidy (fun k hk => hk.elim (hT k) (fun hk => Nat.le_trans hbase hk)) (Nat.le_trans hbase hh.2.2.2.1), hh.2.2.1⟩)
theorem sto_changes (n : Int) (h : Sto w base g L C M) (hn : (C.length : Int) = n) : Calls Try.prog 13 #[.pointer (some ⟨g, 0, none⟩)] w fun e w' => e = .returned (.int .i64 n) ∧ Below w.heap.size w w' := by
  subst hn; exact changes_calls h.2
theorem sto_level (n : Int) (h : Sto w base g L C M) (hn : (M.length : Int) = n) : Calls Try.prog 24 #[.pointer (some ⟨g, 0, none⟩)] w fun e w' => e = .returned (.int .i64 n) ∧ Below w.heap.size w w' := by
  subst hn; exact level_calls h.2
theorem sto_len (n : Int) (h : Sto w base g L C M) (hn : (L.length : Int) = n) : Calls Try.prog 18 #[.pointer (some ⟨g, 0, none⟩)] w fun e w' => e = .returned (.int .i64 n) ∧ Below w.heap.size w w' := by
  subst hn; exact len_calls h.2
/-- Set of a literal range. -/
theorem sto_set_lit (k : Nat) (i a b : Int) (L' : List (List S62)) (C' : List S67) (r : Int) (h : Sto w base g L C M) (hB : Below base w0 w) (hC : C.length ≤ 1000000) (hr : setS k L C i [(⟨a, b⟩ : S62)] = some (L', C', r)) :
    Calls Try.prog 14 #[.pointer (some ⟨g, 0, none⟩), .int .i64 i, .slice (some ⟨w.heap.size, 0, none⟩) 1 1] (w.alloc (.cells #[.int .i64 a, .int .i64 b] 62)) fun e w' => e = .returned (.int .i64 r) ∧ Sto w' base g L' C' M ∧ Below base w0 w' :=
  sto_set (T := fun k => base ≤ k ∧ k < w.heap.size) (w0 := w0) k i _ 1 [(⟨a, b⟩ : S62)] (fun k => k = w.heap.size) L' C' r (fun k hk => hk.1) (h.2.below (below_alloc (Below.refl _ _) _)) (hB.alloc h.1 _) (Nat.le_trans h.1 (below_alloc (Below.refl w.heap.size w) _).size)
    (Kd.R_F (lit62 w a b)) (fun k hk h2 => by rw [hk] at h2; exact Nat.lt_irrefl _ h2.2) (Nat.le_refl _) hC (by simp) hr
end
set_option maxRecDepth 100000
set_option maxHeartbeats 1000000
theorem fixed_calls (w : World) : Calls Try.prog 19 #[] w fun e w' => e = .returned (.bool true) ∧ Below w.heap.size w w' := by
  go_enter Try.func19, Try.ntmps19
  go_wp2_with fail
  have hF0 := Kd.R_F (lit62 w 1 5)
  obtain ⟨wN, hwN⟩ : ∃ wN, wN = (w.alloc (.cells #[.int .i64 1, .int .i64 5] 62)).alloc (.cells #[.slice (some ⟨w.heap.size, 0, none⟩) 1 1] 31) := ⟨_, rfl⟩
  have hCL : Kd.C kL wN (some ⟨w.heap.size + 1, 0, none⟩) 1 [[(⟨1, 5⟩ : S62)]] := by
    have := litL _ _ 1 [(⟨1, 5⟩ : S62)] (Nat.le_refl _) (Kd.F_now hF0)
    rw [World.size_alloc] at this
    rw [hwN]; exact this
  have hBN : Below w.heap.size w wN := by rw [hwN]; exact below_alloc (below_alloc (Below.refl _ _) _) _
  have HBN := Aside0.mk hBN
  have HCL := Aside0.mk hCL
  rw [← hwN]
  clear hBN hCL hF0 hwN
  refine (new_calls 50 _ 1 _ 0 wN HCL.out (Nat.le_refl _) ⟨by decide, fun x hx => by rw [List.mem_singleton.1 hx]; decide⟩ fix_new).mono ?_
  rintro e w1 ⟨hb1, ⟨_, g, rfl, hs1⟩ | ⟨h0, _⟩⟩
  · have HB1 := Aside0.mk hb1
    have HS1 := Aside0.mk (hs1.tidy (fun k hk => hk) hb1.size)
    clear hb1 hs1 HCL
    go_wp2_with fail
    refine (sto_mark (w0 := wN) HS1.out HB1.out (by decide)).mono ?_
    rintro e w2 ⟨rfl, hs, hb⟩
    have HS2 := Aside0.mk hs
    have HB2 := Aside0.mk hb
    clear hb hs HS1 HB1
    go_wp2_with fail
    refine (sto_set_lit 50 0 2 3 _ _ _ HS2.out HB2.out (by decide) fix_set1).mono ?_
    rintro e w3 ⟨rfl, hs, hb⟩
    have HS3 := Aside0.mk hs
    have HB3 := Aside0.mk hb
    clear hb hs HS2 HB2
    go_wp2_with fail
    refine (sto_set_lit 50 0 1 1 _ _ _ HS3.out HB3.out (by decide) fix_set2).mono ?_
    rintro e w4 ⟨rfl, hs, hb⟩
    have HS4 := Aside0.mk hs
    have HB4 := Aside0.mk hb
    clear hb hs HS3 HB3
    go_wp2_with fail
    refine (sto_changes 1 HS4.out rfl).mono ?_
    rintro e w5 ⟨rfl, hb⟩
    have HS5 := Aside0.mk (HS4.out.below hb)
    have HB5 := Aside0.mk (HB4.out.trans (hb.mono HS4.out.1))
    clear hb HS4 HB4
    go_wp2_with fail
    refine (sto_level 1 HS5.out rfl).mono ?_
    rintro e w6 ⟨rfl, hb⟩
    have HS6 := Aside0.mk (HS5.out.below hb)
    have HB6 := Aside0.mk (HB5.out.trans (hb.mono HS5.out.1))
    clear hb HS5 HB5
    go_wp2_with fail
    refine (sto_back (M := []) (w0 := wN) 0 HS6.out HB6.out (by decide) (fun c hc => by rw [List.mem_singleton.1 hc]; decide) (by decide)).mono ?_
    rintro e w7 ⟨rfl, hs, hb⟩
    replace hs : Sto w7 wN.heap.size g [[(⟨1, 5⟩ : S62)]] [] [] := hs
    have HS7 := Aside0.mk hs
    have HB7 := Aside0.mk hb
    clear hb hs HS6 HB6
    go_wp2_with fail
    refine (back_none HS7.out.2).mono ?_
    rintro e w8 ⟨rfl, hb⟩
    have HS8 := Aside0.mk (HS7.out.below hb)
    have HB8 := Aside0.mk (HB7.out.trans (hb.mono HS7.out.1))
    clear hb HS7 HB7
    go_wp2_with fail
    have hCL : Kd.C kL ((w8.alloc (.cells #[.int .i64 2, .int .i64 1] 62)).alloc (.cells #[.slice (some ⟨w8.heap.size, 0, none⟩) 1 1] 31)) (some ⟨w8.heap.size + 1, 0, none⟩) 1 [[(⟨2, 1⟩ : S62)]] := by
      have := litL _ _ 1 [(⟨2, 1⟩ : S62)] (Nat.le_refl _) (Kd.F_now (Kd.R_F (lit62 w8 2 1)))
      rw [World.size_alloc] at this
      exact this
    refine (new_calls 50 _ 1 _ 20 _ hCL (Nat.le_refl _) ⟨by decide, fun x hx => by rw [List.mem_singleton.1 hx]; decide⟩ fix_new2).mono ?_
    rintro e w9 ⟨hb, ⟨h0, _⟩ | ⟨_, rfl⟩⟩
    · exact absurd h0 (by decide)
    have hb' := (below_alloc (below_alloc (Below.refl w8.heap.size w8) (.cells #[.int .i64 2, .int .i64 1] 62)) (.cells #[.slice (some ⟨w8.heap.size, 0, none⟩) 1 1] 31)).trans (hb.mono (by simp only [World.size_alloc]; omega))
    have HS9 := Aside0.mk (HS8.out.below hb')
    have HB9 := Aside0.mk (HB8.out.trans (hb'.mono HS8.out.1))
    clear hb hb' hCL HS8 HB8
    go_wp2_with fail
    refine (get_calls 0 [(⟨1, 5⟩ : S62)] rfl HS9.out.2 (fun _ _ => by decide)).mono ?_
    rintro e w10 ⟨v, rfl, hN, hb⟩
    obtain ⟨A10, c10, rfl⟩ := Kd.N_slice hN
    have HN := Aside0.mk hN
    have HS10 := Aside0.mk (HS9.out.below hb)
    have HB10 := Aside0.mk (HB9.out.trans (hb.mono HS9.out.1))
    clear hb hN HS9 HB9
    go_wp2_with fail
    have hc10 : 1 ≤ c10 := by
      obtain ⟨A, c, e, hle, _⟩ := Kd.N_reads HN.out
      cases e; exact hle
    refine (secateurref02_Same.calls 50 A10 c10 [(⟨1, 5⟩ : S62)] _ 1 [(⟨1, 5⟩ : S62)] true _ (Kd.C_alloc (Kd.F_now (Kd.N_F HN.out)) _) hc10 (Kd.F_now (Kd.R_F (lit62 w10 1 5))) (Nat.le_refl _) fix_same).mono ?_
    rintro e w11 ⟨rfl, hb⟩
    have hb' := (below_alloc (Below.refl w10.heap.size w10) (.cells #[.int .i64 1, .int .i64 5] 62)).trans (hb.below.mono (by rw [World.size_alloc]; omega))
    have HS11 := Aside0.mk (HS10.out.below hb')
    have HB11 := Aside0.mk (HB10.out.trans (hb'.mono HS10.out.1))
    clear hb hb' HS10 HB10 HN hc10
    go_wp2_with fail
    refine (sto_changes 0 HS11.out rfl).mono ?_
    rintro e w12 ⟨rfl, hb⟩
    have HS12 := Aside0.mk (HS11.out.below hb)
    have HB12 := Aside0.mk (HB11.out.trans (hb.mono HS11.out.1))
    clear hb HS11 HB11
    go_wp2_with fail
    refine (get_calls 1 [] rfl HS12.out.2 (fun _ h => absurd h (by decide))).mono ?_
    rintro e w13 ⟨v, rfl, hN, hb⟩
    obtain ⟨A13, c13, rfl⟩ := Kd.N_slice hN
    have HS13 := Aside0.mk (HS12.out.below hb)
    have HB13 := Aside0.mk (HB12.out.trans (hb.mono HS12.out.1))
    clear hb hN HS12 HB12
    go_wp2_with fail
    refine (sto_set (T := fun k => wN.heap.size ≤ k ∧ k < w13.heap.size) (w0 := wN) 50 1 none 0 [] (fun _ => False) _ _ _ (fun k hk => hk.1) HS13.out.2 HB13.out HS13.out.1 (Kd.F_nil _ _ _) (fun _ h => h.elim) (Nat.le_refl _) (by decide) (by decide) fix_set3).mono ?_
    rintro e w14 ⟨rfl, hs, hb⟩
    have HS14 := Aside0.mk hs
    have HB14 := Aside0.mk hb
    clear hb hs HS13 HB13
    go_wp2_with fail
    refine (sto_len 1 HS14.out rfl).mono ?_
    rintro e w15 ⟨rfl, hb⟩
    have HB15 := Aside0.mk (HB14.out.trans (hb.mono HS14.out.1))
    clear hb HS14 HB14
    go_wp2
    go_ret
    exact ⟨rfl, HBN.out.trans (HB15.out.mono HBN.out.size)⟩
  · exact absurd rfl h0
end Go.Proofs.Ytcjachhdoogbaaa.PT
