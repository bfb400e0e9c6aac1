/- The document's New: a store of copies of the domains, or what is wrong with them. No conditions but the lengths' bounds. -/
import Derived.Test.YtcjachhdoogbaaaTCheck
set_option linter.unusedVariables false
set_option linter.unusedSimpArgs false
namespace Go.Proofs.Ytcjachhdoogbaaa.PT
open Go.RowKit Go.Proofs.YtcjachhdoogbaaaW.PrintWords Go.Proofs.YtcjachhdoogbaaaW.PrintLast Go.Proofs.YtcjachhdoogbaaaW.PrintMore
/-- What New answers: what is wrong with the first that is no domain. -/
def newC : List (List S62) → Int
  | [] => 0
  | d :: l => if chk d = 0 then newC l else chk d
theorem newS_newC (l : List (List S62)) (k : Nat) (h : ∀ x ∈ l, x.length ≤ 10000) (hk : 20000 ≤ k) : newS k l = some (newC l) := by
  induction l with
  | nil => rfl
  | cons d l ih =>
    have hd := h d (by simp)
    rw [newS, check_f k d (by omega) (by omega), Option.bind_some, newC]
    by_cases c : chk d = 0
    · rw [if_pos c, if_pos c]; exact ih (fun x hx => h x (by simp [hx]))
    · rw [if_neg c, if_neg c]
theorem newC_dom (l : List (List S62)) (h : newC l = 0) : ∀ x ∈ l, Dom x := by
  induction l with
  | nil => intro x hx; cases hx
  | cons d l ih =>
    rw [newC] at h
    by_cases c : chk d = 0
    · rw [if_pos c] at h
      intro x hx
      rcases List.mem_cons.1 hx with e | e
      · rw [e]; exact (chk_zero d).1 c
      · exact ih h x e
    · rw [if_neg c] at h; exact absurd h c
theorem lists_loop (l : List (List S62)) (hl : l.length ≤ 1000000) (hx : ∀ x ∈ l, x.length ≤ 1000000) (m : Nat) : ∀ (k i : Nat), m + i = l.length → m + 1 ≤ k → secateurref03_Lists.l0 k l (l.take i) i = some l := by
  induction m with
  | zero =>
    intro k i hm hk
    obtain ⟨k, rfl⟩ : ∃ q, k = q + 1 := ⟨k - 1, by omega⟩
    rw [secateurref03_Lists.l0, if_neg (by omega), List.take_of_length_le (by omega)]
  | succ m ih =>
    intro k i hm hk
    obtain ⟨k, rfl⟩ : ∃ q, k = q + 1 := ⟨k - 1, by omega⟩
    have hi : i < l.length := by omega
    have hm1 := hx _ (rdL3_mem l (i : Int) (by omega) (by omega))
    have hs : l.take i ++ [rd_L3 l (i : Int)] = l.take (i + 1) := by
      rw [rd_L3, Int.toNat_natCast]; exact take_next l [] i hi
    rw [secateurref03_Lists.l0, if_pos (by omega), Option.bind_some, if_pos (by omega), if_pos (by rw [List.length_nil]; omega), if_pos (by rw [List.length_take]; omega), wrap_next i (by omega), List.nil_append, hs]
    exact ih k (i + 1) (by omega) (by omega)
theorem lists_f (k : Nat) (l : List (List S62)) (hl : l.length ≤ 1000000) (hx : ∀ x ∈ l, x.length ≤ 1000000) (hk : l.length + 1 ≤ k) : secateurref03_Lists.f k l = some l := by
  unfold secateurref03_Lists.f
  exact lists_loop l hl hx l.length k 0 (by omega) hk
theorem s_lists (A : Option Addr) (c : Nat) (l : List (List S62)) (w : World) (hr : Kd.C kL w A l.length l) (hc : l.length ≤ c) (hl : l.length ≤ 1000000) (hx : ∀ x ∈ l, x.length ≤ 1000000) :
    Calls Try.prog 42 #[.slice A l.length c] w fun e w' => ∃ A' c', e = .returned (.slice A' l.length c') ∧ Fr kL w w' A' c' l ∧ Below w.heap.size w w' := by
  refine (secateurref03_Lists.calls KK A c l l w hr hc (lists_f KK l hl hx (by rw [kk]; omega))).mono ?_
  rintro e w' ⟨v, rfl, hR, hb⟩
  obtain ⟨A', c', rfl, hf⟩ := fr_of_R (Kd.S_R hR)
  exact ⟨A', c', rfl, hf, hb⟩
set_option maxRecDepth 100000
set_option maxHeartbeats 4000000
theorem newR_calls (A : Option Addr) (c : Nat) (l : List (List S62)) (w : World) (hC : Kd.C kL w A l.length l) (hlc : l.length ≤ c) (hbig : l.length ≤ 1000000 ∧ ∀ x ∈ l, x.length ≤ 10000) :
    Calls Try.prog 20 #[.slice A l.length c] w fun e w' => Below w.heap.size w w' ∧
      ((newC l = 0 ∧ ∃ kb Al cl, e = .returned (.tuple #[.pointer (some ⟨kb, 0, none⟩), .int .i64 0]) ∧ w.heap.size ≤ kb ∧ w'.heap[kb]? = some (.cells #[.slice Al l.length cl, .int .i64 0, .slice none 0 0] 77 (0, 0)) ∧ Fr kL w w' Al cl l ∧ Kd.F kL w' (fun k => w.heap.size ≤ k ∧ k ≠ kb) Al l.length l) ∨
       (newC l ≠ 0 ∧ e = .returned (.tuple #[.pointer none, .int .i64 (newC l)]))) := by
  have HC := Aside0.mk hC
  have HLC := Aside0.mk hlc
  have HG := Aside0.mk hbig
  clear hC hlc hbig
  have hu25 := Try.underlying25
  have hu28 := Try.underlying28
  have hu31 := Try.underlying31
  have hu74 := Try.underlying74
  have hu77 := Try.underlying77
  go_enter Try.func20, Try.ntmps20
  go_wp2_with fail
  go_loopg [4] l.length (fun j v4 wr => ∃ i : Nat, v4 = .int .i64 (i : Int) ∧ Aside0 (i + j = l.length ∧ newC (l.drop i) = newC l) ∧ Aside0 (Below w.heap.size w wr))
  case atStart => exact ⟨0, rfl, ⟨Nat.zero_add _, rfl⟩, ⟨Below.refl _ _⟩⟩
  case round =>
    obtain ⟨i, rfl, HI, HB⟩ := hrel
    by_cases hi : i < l.length
    · have hi1 : (i : Int) < (l.length : Int) := by omega
      obtain ⟨ad, A0, c0, e, hx, hl0, hi0⟩ := at_L3 HC.out (i : Int) (by omega) hi1
      cases e
      rw [Int.toNat_natCast] at hx
      replace hx := (HB.out.cell (World.block_lt_of_cell? w _ hx)).trans hx
      have HD := Aside0.mk (And.intro hl0 (Kd.C_below hi0 HB.out))
      have HLE := Aside0.mk (HG.out.2 _ (rdL3_mem l (i : Int) (by omega) hi1))
      have hgd : l[i]? = some (rd_L3 l (i : Int)) := by simp [rd_L3, List.getD_eq_getElem?_getD, List.getElem?_eq_getElem hi]
      have hdr : l.drop i = rd_L3 l (i : Int) :: l.drop (i + 1) := by
        rw [List.drop_eq_getElem_cons hi]; congr 1
        rw [List.getElem?_eq_getElem hi] at hgd; exact Option.some.inj hgd
      have h5 := HI.out.2
      rw [hdr, newC] at h5
      have H5 := Aside0.mk h5
      have q1 := eq_true hi1
      have q2 := eq_true hi
      have q3 : decide ((i : Int) < (l.length : Int)) = true := decide_eq_true hi1
      have hwi : wrap64 ((i : Int) + 1) = (i : Int) + 1 := wrap_id _ (by have := HG.out.1; omega)
      obtain ⟨j, hj⟩ : ∃ j, gk = j + 1 := ⟨gk - 1, by have := HI.out.1; omega⟩
      have HJ := Aside0.mk hj
      clear hi0 hl0 hi hi1 hgd hdr h5 hj
      go_wp2_with fail
      refine (rcheck_calls A0 c0 (rd_L3 l (i : Int)) wr HD.out.2 HD.out.1 (by have := HLE.out; omega)).mono ?_
      rintro e w2 ⟨rfl, hb⟩
      have HB2 := Aside0.mk (HB.out.trans (hb.mono HB.out.size))
      clear hb
      by_cases he : chk (rd_L3 l (i : Int)) = 0
      · rw [he]
        have h6 := H5.out
        rw [if_pos he] at h6
        have H6 := Aside0.mk h6
        clear he h6 hx
        go_wp2
        go_roundg j
        case measure => have := HJ.out; omega
        case rel =>
          have e0 := HI.out.1
          have e1 := HJ.out
          exact ⟨i + 1, by first | (simp; done) | (rw [hwi]; simp; done), ⟨by omega, H6.out⟩, HB2⟩
      · have h6 := H5.out
        rw [if_neg he] at h6
        have e1 : (chk (rd_L3 l (i : Int)) == 0) = false := beq_eq_false_iff_ne.mpr he
        have e2 : (chk (rd_L3 l (i : Int)) != 0) = true := bne_iff_ne.mpr he
        have H6 := Aside0.mk (And.intro h6 he)
        clear he h6 hx
        go_wp2
        go_ret2
        exact ⟨HB2.out, .inr ⟨by rw [← H6.out.1]; exact H6.out.2, by rw [H6.out.1]; rfl⟩⟩
    · have hi' : i = l.length := by have := HI.out.1; omega
      subst hi'
      have q1 : ((l.length : Int) < (l.length : Int)) = False := by simp
      have d1 : decide ((l.length : Int) < (l.length : Int)) = false := by simp
      have h5 := HI.out.2
      rw [List.drop_length] at h5
      have H5 := Aside0.mk h5
      clear hi h5
      go_wp2_with fail
      refine (s_lists A c l wr (Kd.C_below HC.out HB.out) HLC.out HG.out.1 (fun x hx => by have := HG.out.2 x hx; omega)).mono ?_
      rintro e w3 ⟨Al, cl, rfl, hf, hb⟩
      have HF := Aside0.mk hf
      have HB3 := Aside0.mk (HB.out.trans (hb.mono HB.out.size))
      have HS := Aside0.mk HB.out.size
      clear hf hb
      go_wp2
      go_ret2
      refine ⟨below_alloc HB3.out _, .inl ⟨H5.out.symm, w3.heap.size, Al, cl, rfl, HB3.out.size, heap_alloc_new _ _, ⟨HF.out.1, Kd.F_mono (Kd.F_alloc HF.out.2 _) (fun k hk => Nat.le_trans HS.out hk)⟩, Kd.F_mono (Kd.F_alloc (Kd.F_bound HF.out.2) _) (fun k hk => ⟨Nat.le_trans HS.out hk.1, Nat.ne_of_lt hk.2⟩)⟩⟩
end Go.Proofs.Ytcjachhdoogbaaa.PT
