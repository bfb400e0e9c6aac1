/- More on the calls of a law on a store: a script's calls, a Set whose answer is known. No conditions but the lengths' bounds. -/
import Derived.Test.YtcjachhdoogbaaaTApi
set_option linter.unusedVariables false
set_option linter.unusedSimpArgs false
namespace Go.Proofs.Ytcjachhdoogbaaa.PT
open Go.RowKit Go.Proofs.YtcjachhdoogbaaaW.PrintWords Go.Proofs.YtcjachhdoogbaaaW.PrintLast Go.Proofs.YtcjachhdoogbaaaW.PrintMore
theorem and_seven (a : Int) : ∃ c : Int, Go.bits BinOp.and IntKind.i64 a 7 = c ∧ 0 ≤ c ∧ c ≤ 7 := by
  refine ⟨a % 8, ?_, by omega, by omega⟩
  have h16 : (BitVec.ofInt 64 7).toNat = 2 ^ 3 - 1 := by decide
  have key : (BitVec.ofInt 64 a &&& BitVec.ofInt 64 7).toNat = (a % ((2 ^ 64 : Nat) : Int)).toNat % 2 ^ 3 := by
    rw [BitVec.toNat_and, BitVec.toNat_ofInt, h16, Nat.and_two_pow_sub_one_eq_mod]
  show IntKind.i64.wrap ((BitVec.ofInt 64 a &&& BitVec.ofInt 64 7).toNat : Nat) = a % 8
  rw [key, IntKind.wrap_i64]
  omega
theorem Good.more {L : List (List S62)} {C : List S67} {n m : Nat} (h : Good L C n) (hm : n ≤ m) : Good L C m := ⟨h.len, h.dom, h.at_, Nat.le_trans h.few hm⟩
theorem Stat.more {T : Nat → Prop} {w0 w : World} {base g : Nat} {L : List (List S62)} {C : List S67} {M : List Int} {n m : Nat} (h : Stat T w0 w base g L C M n) (hm : n ≤ m) : Stat T w0 w base g L C M m := ⟨h.st, h.below, h.lo, h.hi, h.size, h.good.more hm⟩
theorem filter_none {x y : List Int} (h : ∀ v, v ∈ x → v ∈ y) : x.filter (fun v => decide (v ∈ y) == false) = [] := by
  rw [List.filter_eq_nil_iff]
  intro v hv
  simp [h v hv]
theorem k33_openF {W : World} {ok : Nat → Prop} {x : S33} {cs : List Value} (h : Kd.FK k33 W ok x cs) : ∃ A2 c2 A3 c3, cs = [.int .i64 x.f0, .int .i64 x.f1, .slice A2 x.f2.length c2, .slice A3 x.f3.length c3] ∧ x.f2.length ≤ c2 ∧ Kd.F (Kd.int .i64) W ok A2 x.f2.length x.f2 ∧ x.f3.length ≤ c3 ∧ Kd.F k62 W ok A3 x.f3.length x.f3 := by
  obtain ⟨A2, c2, A3, c3, rfl, l2, _, l3, _⟩ := k33_open (Kd.FK_now h)
  refine ⟨A2, c2, A3, c3, rfl, l2, fun W' hW => ?_, l3, fun W' hW => ?_⟩
  · obtain ⟨A2', c2', A3', c3', he, _, g2, _, g3⟩ := k33_open (h W' hW)
    simp only [List.cons.injEq, Value.slice.injEq, true_and, and_true] at he
    rw [he.1.1]; exact g2
  · obtain ⟨A2', c2', A3', c3', he, _, g2, _, g3⟩ := k33_open (h W' hW)
    simp only [List.cons.injEq, Value.slice.injEq, true_and, and_true] at he
    rw [he.2.1]; exact g3
theorem at_H33 {T : Nat → Prop} {w : World} {A : Option Addr} {c : Nat} {xs : List S33} (h : Held k33 T w A c xs) (i : Int) (h0 : 0 ≤ i) (h1 : i < xs.length) : ∃ ad A2 c2 A3 c3, A = some ad ∧
    w.cell? (ad.add (i.toNat * 4)) = some (.int .i64 (rd_T33 xs i).f0) ∧ w.cell? ⟨(ad.add (i.toNat * 4)).block, (ad.add (i.toNat * 4)).off + 1, none⟩ = some (.int .i64 (rd_T33 xs i).f1) ∧
    w.cell? ⟨(ad.add (i.toNat * 4)).block, (ad.add (i.toNat * 4)).off + 2, none⟩ = some (.slice A2 (rd_T33 xs i).f2.length c2) ∧ w.cell? ⟨(ad.add (i.toNat * 4)).block, (ad.add (i.toNat * 4)).off + 3, none⟩ = some (.slice A3 (rd_T33 xs i).f3.length c3) ∧
    Held (Kd.int .i64) T w A2 c2 (rd_T33 xs i).f2 ∧ Held k62 T w A3 c3 (rd_T33 xs i).f3 := by
  obtain ⟨ad, c', e, _, hK, hc0, _⟩ := Kd.F_get h.2 z33 i h0 h1
  have hc : ∀ j u, c'[j]? = some u → w.cell? (ad.add (i.toNat * 4 + j)) = some u := hc0
  obtain ⟨A2, c2, A3, c3, rfl, l2, g2, l3, g3⟩ := k33_openF hK
  exact ⟨ad, A2, c2, A3, c3, e, hc 0 _ rfl, by rw [← add_field _ _ 1 (by omega)]; exact hc 1 _ rfl, by rw [← add_field _ _ 2 (by omega)]; exact hc 2 _ rfl, by rw [← add_field _ _ 3 (by omega)]; exact hc 3 _ rfl, ⟨l2, g2⟩, ⟨l3, g3⟩⟩
theorem s_set2 {T : Nat → Prop} {w w0 : World} {base g n : Nat} {L : List (List S62)} {C : List S67} {M : List Int} (i : Int) (A : Option Addr) (c : Nat) (d : List S62) (L' : List (List S62)) (C' : List S67) (r : Int) (h : Stat T w0 w base g L C M n) (hd : Held k62 T w A c d) (hdl : d.length ≤ 1000000) (hn : n ≤ 900000) (hs : setS KK L C i d = some (L', C', r)) :
    Calls Try.prog 14 #[.pointer (some ⟨g, 0, none⟩), .int .i64 i, .slice A d.length c] w fun e w' => ∃ T', e = .returned (.int .i64 r) ∧ Stat T' w0 w' base g L' C' M (n + 1) ∧ Keeps w w' T T' ∧ Kept w w' T := by
  refine (set_calls (w0 := w0) KK i A c d (fun k => ¬ T k ∧ k < w.heap.size) L' C' r h.st h.below h.size hd.2 (fun k hk => hk.1) hd.1 (by have := h.good.few; omega) hdl hs).mono ?_
  rintro e w' ⟨rfl, hst, hb, hk⟩
  obtain ⟨T', h1, h2⟩ := h.wrote hst hb hk (setS_good (by rw [kk]; omega) h.good hdl hs).1
  exact ⟨T', rfl, h1, h2, hk⟩
theorem set_none {L L' : List (List S62)} {C C' : List S67} {i r : Int} {d : List S62} {n : Nat} (h : Good L C n) (hd : d.length ≤ 1000000) (hs : setS KK L C i d = some (L', C', r)) (hr : r ≠ 0) : L' = L ∧ C' = C := by
  obtain ⟨L1, C1, r1, e, _, hc⟩ := setS_f KK L C i d (by rw [kk]; omega) h.dom hd
  rw [hs] at e
  cases e
  rcases hc with ⟨rfl, rfl, _⟩ | ⟨h0, _⟩
  · exact ⟨rfl, rfl⟩
  · exact absurd h0 hr
end Go.Proofs.Ytcjachhdoogbaaa.PT
