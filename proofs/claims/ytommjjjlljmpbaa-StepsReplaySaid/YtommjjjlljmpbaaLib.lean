/- What slices.Clone, slices.Insert (of one value) and slices.Delete (of one place) do to a row of the call's own. No conditions but the lengths' own bounds. -/
import Derived.Test.YtommjjjlljmpbaaShelf
import Derived.Test.YtommjjjlljmpbaaWWords
import Derived.Test.YtommjjjlljmpbaaWLast
import Derived.Test.YtommjjjlljmpbaaWMore
set_option linter.unusedVariables false
set_option linter.unusedSimpArgs false
namespace Go.Proofs.Ytommjjjlljmpbaa.SLib
open Go.RowKit Go.Proofs.YtommjjjlljmpbaaW.PrintWords Go.Proofs.YtommjjjlljmpbaaW.PrintLast Go.Proofs.YtommjjjlljmpbaaW.PrintMore

theorem spot_none {w : World} {ad : Addr} {u : Value} (h : w.cell? (ad.add 0) = some u) : ∃ b off, ad = ⟨b, off, none⟩ := by
  obtain ⟨b, off, sp⟩ := ad
  cases sp with
  | none => exact ⟨b, off, rfl⟩
  | some s =>
    simp only [Addr.add, if_true, World.cell?] at h
    split at h <;> simp at h
theorem add_lit (b off j : Nat) : (⟨b, off, none⟩ : Addr).add j = ⟨b, off + j, none⟩ := by
  unfold Addr.add
  split
  · rename_i h; subst h; rfl
  · rfl
theorem clone_calls (A : Option Addr) (c : Nat) (l : List Int) (w : World) (h : ReadsInt w .i64 A l.length l) (hl : l.length * 8 ≤ 140737488355328) :
    Calls Try.prog 22 #[.slice A l.length c] w fun e w' => ∃ v, e = .returned v ∧ w'.ownsRow w.heap.size 3 1 v l.length (nums .i64 l) ∧ Below w.heap.size w w' := by
  rcases A with _ | ad
  · have h0 : l = [] := by
      rcases Nat.eq_zero_or_pos l.length with h0 | h0
      · exact List.eq_nil_of_length_eq_zero h0
      · obtain ⟨ad, h, _⟩ := h.2.2 h0
        cases h
    subst h0
    refine (Try.slices_Clone_int_nil _ _ _).mono ?_
    rintro e w' ⟨rfl, rfl⟩
    exact ⟨_, rfl, own_nil _ _ _ _, Below.refl _ _⟩
  · rcases Nat.eq_zero_or_pos l.length with h0 | h0
    · have h0 : l = [] := List.eq_nil_of_length_eq_zero h0
      subst h0
      refine (Try.slices_Clone_int_zero ad c w).mono ?_
      rintro e w' ⟨v, rfl, ho, _, hb⟩
      exact ⟨_, rfl, ho, hb⟩
    · obtain ⟨ad', he, hc⟩ := h.2.2 h0
      cases he
      obtain ⟨b, off, rfl⟩ := spot_none (hc 0 h0)
      refine (Try.slices_Clone_int b off l.length c l w (Nat.le_refl _) hl (fun j hj => by have := hc j hj; rwa [add_lit] at this)).mono ?_
      rintro e w' ⟨v, rfl, ho, _, hb⟩
      rw [List.take_length] at ho
      exact ⟨_, rfl, ho, hb⟩

theorem below_setCells {B g : Nat} {w W : World} (h : Below B w W) (hg : B ≤ g) (o : Nat) (vs : List Value) : Below B w (W.setCells g o vs) := by
  obtain ⟨h1, h2, h3, h4⟩ := setCells_same g vs o W
  exact ⟨h1.trans h.os, h2.trans h.tape, h3.trans h.output, by rw [h4]; exact h.size, fun i hi => (setCells_far vs o i (by omega)).trans (h.block i hi)⟩
theorem own_cells {w : World} {base g n cap : Nat} {xs : List Value} (h : w.ownsRow base 3 1 (.slice (some ⟨g, 0, none⟩) n cap) n xs) :
    ∃ cur, base ≤ g ∧ w.heap[g]? = some (.cells cur 3 (0, 0)) ∧ n ≤ cap ∧ cap ≤ maxLen ∧ cur.size = cap ∧ cur.toList.take n = xs ∧ xs.length = n := by
  rcases h.2 with ⟨h', _⟩ | ⟨g', cap', cur, h', hb, hg, h1, h2, h3, h4⟩
  · simp at h'
  · simp only [Value.slice.injEq, Option.some.injEq, Addr.mk.injEq, and_true, true_and] at h'
    obtain ⟨rfl, rfl⟩ := h'
    exact ⟨cur, hb, hg, h1, h2, by simpa using h3, by simpa using h4, by have := h.1; simpa using this⟩
theorem cell_at {w : World} {g : Nat} {cur : Array Value} {e : TypeId} (h : w.heap[g]? = some (.cells cur e (0, 0))) (j : Nat) : w.cell? ⟨g, j, none⟩ = cur[j]? := by
  simp [World.cell?, h]
theorem free_at {w : World} {g : Nat} {cur : Array Value} {e : TypeId} (h : w.heap[g]? = some (.cells cur e (0, 0))) (j : Nat) : w.frozen? ⟨g, j, none⟩ = false := by
  simp [World.frozen?, h]
theorem shape_at {w : World} {g : Nat} {cur : Array Value} {e : TypeId} (h : w.heap[g]? = some (.cells cur e (0, 0))) : w.shape? g = some (e, cur.size) := by
  simp [World.shape?, h]
theorem nums_one (xs : List Int) : ∀ v ∈ nums .i64 xs, v.oneCell' = true := by
  intro v hv
  simp only [nums, List.mem_map] at hv
  obtain ⟨x, _, rfl⟩ := hv
  rfl
theorem take_cells {cur : Array Value} {xs : List Value} {n : Nat} (h : cur.toList.take n = xs) (hl : xs.length = n) (j : Nat) (v : Value) (hj : xs[j]? = some v) : cur[j]? = some v := by
  have hlt : j < xs.length := (List.getElem?_eq_some_iff.1 hj).1
  rw [← h, List.getElem?_take_of_lt (by omega)] at hj
  simpa using hj
theorem insert_list (xs : List Int) (i : Nat) (x : Int) : nums .i64 (xs.take i ++ x :: xs.drop i) = (nums .i64 xs).take i ++ [.int .i64 x] ++ (nums .i64 xs).drop i := by
  simp [nums, List.map_take, List.map_drop]

theorem insert_calls (base i n : Nat) (v : Value) (xs : List Int) (x : Int) (vb : Nat) (w : World) (ho : w.ownsRow base 3 1 v n (nums .i64 xs)) (hn : xs.length = n) (hi : i ≤ n)
    (hbox : w.heap[vb]? = some (.cells #[.int .i64 x] 3 (0, 0))) (hne : v.ownBlock ≠ some vb) (hbase : base ≤ w.heap.size) (hbig : (n + 1) * 8 ≤ 140737488355328) :
    Calls Try.prog 21 #[v, .int .i64 i, .slice (some ⟨vb, 0, none⟩) 1 1] w fun e w' =>
      ∃ v', e = .returned v' ∧ w'.ownsRow base 3 1 v' (n + 1) (nums .i64 (xs.take i ++ x :: xs.drop i)) ∧ Below base w w' := by
  have hvs : ∀ j u, ([.int .i64 x] : List Value)[j]? = some u → w.cell? ⟨vb, 0 + j, none⟩ = some u := by
    intro j u hj
    rw [Nat.zero_add, cell_at hbox]
    cases j with
    | zero => simpa using hj
    | succ j => simp at hj
  have h1v : ∀ u ∈ ([.int .i64 x] : List Value), u.oneCell' = true := by
    intro u hu
    rw [List.mem_singleton.1 hu]; rfl
  have hxl : (nums .i64 xs).length = n := by rw [nums_length, hn]
  have grown_own : ∀ (W : World) (row : Array Value) (cap : Nat), W.heap[w.heap.size]? = some (.cells row 3 (0, 0)) → row.size = cap → n + 1 ≤ cap → cap ≤ maxLen → row.toList.take (n + 1) = nums .i64 (xs.take i ++ x :: xs.drop i) →
      W.ownsRow base 3 1 (.slice (some ⟨w.heap.size, 0, none⟩) (n + 1) cap) (n + 1) (nums .i64 (xs.take i ++ x :: xs.drop i)) := by
    intro W row cap h1 h2 h3 h4 h5
    refine ⟨by rw [nums_length]; simp; omega, .inr ⟨_, cap, row, rfl, hbase, h1, h3, h4, by omega, by rw [Nat.mul_one]; exact h5⟩⟩
  have hcap : ∀ c, n + 1 ≤ grownCap w (n + 1) c 3 ∧ grownCap w (n + 1) c 3 ≤ maxLen := fun c =>
    ⟨grownCap_ge _ _ _ _, grownCap_le_maxLen _ _ _ _ (by simp only [maxLen]; omega)⟩
  have zs : ∀ k, (Builtin.zeroCells (Value.int .i64 0).cells k).size = k := by
    intro k
    simp [Builtin.zeroCells, Value.cells]
  have hlist := insert_list xs i x
  rcases Nat.lt_or_ge i n with hin | hin
  · obtain ⟨g, cap, rfl, hgb, hgl⟩ := ho.form (by omega)
    obtain ⟨cur, _, hg, h1, h2, h3, h4, h5⟩ := own_cells ho
    have hcs : ∀ j u, (nums .i64 xs)[j]? = some u → w.cell? ⟨g, 0 + j, none⟩ = some u := by
      intro j u hj
      rw [Nat.zero_add, cell_at hg]
      exact take_cells h4 h5 j u hj
    rcases Nat.lt_or_ge cap (n + 1) with hr | hr
    · -- a new row
      refine (Try.slices_Insert_int_grow g 0 n cap i vb 0 1 1 (nums .i64 xs) [.int .i64 x] w hin (by omega) h1 hr hbig hxl rfl hcs hvs (nums_one xs) h1v).mono ?_
      rintro e w' ⟨rfl, rfl⟩
      refine ⟨_, rfl, ?_, ?_⟩
      · obtain ⟨hc1, hc2⟩ := hcap cap
        have hsz := zs (n + 1 - i)
        have hsz2 := zs (grownCap w (n + 1) cap 3 - (n + 1))
        generalize grownCap w (n + 1) cap 3 = C at *
        have hb0 := heap_alloc_new w (.cells (((nums .i64 xs).take i).toArray ++ Builtin.zeroCells (Value.int .i64 0).cells (n + 1 - i) ++ Builtin.zeroCells (Value.int .i64 0).cells (C - (n + 1))) 3)
        have hz0 : (((nums .i64 xs).take i).toArray ++ Builtin.zeroCells (Value.int .i64 0).cells (n + 1 - i) ++ Builtin.zeroCells (Value.int .i64 0).cells (C - (n + 1))).size = C := by
          simp only [Array.size_append, hsz, hsz2, List.size_toArray, List.length_take, hxl]; omega
        generalize hrow : (((nums .i64 xs).take i).toArray ++ Builtin.zeroCells (Value.int .i64 0).cells (n + 1 - i) ++ Builtin.zeroCells (Value.int .i64 0).cells (C - (n + 1))) = row at *
        have ht : row.toList.take i = (nums .i64 xs).take i := by
          rw [← hrow]
          simp only [Array.toList_append]
          rw [List.append_assoc, List.take_append_of_le_length (by simp [hxl]; omega), List.take_of_length_le (by simp; omega)]
        obtain ⟨c1, hc1', hs1, ht1⟩ := setCells_row [Value.int .i64 x] i ((w.alloc (.cells row 3)).drew) row hb0 (by simp; omega)
        obtain ⟨c2, hc2', hs2, ht2⟩ := setCells_row ((nums .i64 xs).drop i) (i + 1) (((w.alloc (.cells row 3)).drew.setCells w.heap.size i [Value.int .i64 x]).drew) c1 hc1' (by simp [hxl]; omega)
        refine grown_own _ c2 C hc2' (by omega) hc1 hc2 ?_
        have e1 : ((nums .i64 xs).take i ++ [Value.int .i64 x]).length = i + 1 := by simp [hxl]; omega
        have e2 : c1.toList.take (i + 1) = (nums .i64 xs).take i ++ [Value.int .i64 x] := by
          rw [ht1, ht, List.take_append_of_le_length (by omega), List.take_of_length_le (by omega)]
        rw [ht2, e2, hlist]
        rw [List.take_append_of_le_length (by simp [hxl]; omega), List.take_of_length_le (by simp [hxl]; omega)]
      · refine below_setCells ?_ hbase _ _
        refine below_drew (below_setCells ?_ hbase _ _)
        exact below_drew ((Below.refl base w).alloc hbase _)
    · -- in place
      have hbne : vb ≠ g := by
        intro hh
        subst hh
        exact hne rfl
      refine (Try.slices_Insert_int_shift g 0 n cap i vb 0 1 1 (nums .i64 xs) [.int .i64 x] w hin (by omega) hr (by simpa [maxLen] using h2) hbne hxl rfl hcs
        (fun j hj => by rw [Nat.zero_add, cell_at hg]; simp; omega) (fun j hj => free_at hg _) hvs (nums_one xs) h1v 3 3 1 cap (shape_at hbox) (by rw [shape_at hg, h3]) (by omega) (free_at hbox _) (free_at hbox _)).mono ?_
      rintro e w' ⟨rfl, rfl⟩
      refine ⟨_, rfl, ?_, ?_⟩
      · obtain ⟨c1, hc1', hs1, ht1⟩ := setCells_row ((nums .i64 xs).drop i) (0 + (i + 1)) w.drew cur hg (by simp [hxl]; omega)
        obtain ⟨c2, hc2', hs2, ht2⟩ := setCells_row [Value.int .i64 x] (0 + i) (w.drew.setCells g (0 + (i + 1)) ((nums .i64 xs).drop i)) c1 hc1' (by simp; omega)
        refine ⟨by rw [nums_length]; simp; omega, .inr ⟨g, cap, c2, rfl, hgb, hc2', hr, h2, by omega, ?_⟩⟩
        have hcl : cur.toList.length = cap := by simpa using h3
        have et : cur.toList.take i = (nums .i64 xs).take i := by rw [← h4, List.take_take, Nat.min_eq_left hi]
        rw [ht2, ht1, hlist]
        simp only [Nat.zero_add, List.length_singleton, Nat.mul_one]
        have l1 : (cur.toList.take (i + 1)).length = i + 1 := by rw [List.length_take]; omega
        have l2 : ((nums .i64 xs).drop i).length = n - i := by rw [List.length_drop, hxl]
        have e2 : (cur.toList.take (i + 1) ++ (nums .i64 xs).drop i ++ cur.toList.drop (i + 1 + ((nums .i64 xs).drop i).length)).take i = (nums .i64 xs).take i := by
          rw [List.append_assoc, List.take_append_of_le_length (by omega), List.take_take, Nat.min_eq_left (by omega), et]
        have e3 : (cur.toList.take (i + 1) ++ (nums .i64 xs).drop i ++ cur.toList.drop (i + 1 + ((nums .i64 xs).drop i).length)).drop (i + 1) = (nums .i64 xs).drop i ++ cur.toList.drop (i + 1 + ((nums .i64 xs).drop i).length) := by
          rw [List.append_assoc, List.drop_left' l1]
        rw [e2, e3, ← List.append_assoc, List.take_append_of_le_length (by simp [hxl]; omega), List.take_of_length_le (by simp [hxl]; omega)]
      · exact below_setCells (below_setCells (below_drew (Below.refl base w)) hgb _ _) hgb _ _
  · obtain rfl : i = n := by omega
    have e1 : (nums .i64 xs).take i = nums .i64 xs := List.take_of_length_le (by omega)
    have e2 : (nums .i64 xs).drop i = [] := List.drop_of_length_le (by omega)
    rw [e1, e2, List.append_nil] at hlist
    -- the end
    have new_row : ∀ (ba : Option Addr) (cap : Nat), i ≤ cap → cap < i + 1 → (ba = none → i = 0) → (∀ a, ba = some a → ∀ j u, (nums .i64 xs)[j]? = some u → w.cell? (a.add j) = some u) →
        Calls Try.prog 21 #[.slice ba i cap, .int .i64 i, .slice (some ⟨vb, 0, none⟩) 1 1] w fun e w' =>
          ∃ v', e = .returned v' ∧ w'.ownsRow base 3 1 v' (i + 1) (nums .i64 (xs.take i ++ x :: xs.drop i)) ∧ Below base w w' := by
      intro ba cap hc1 hc2 hnil hcs
      refine (Try.slices_Insert_int_end_grow ba i cap vb 0 1 1 (nums .i64 xs) [.int .i64 x] w (by omega) hc1 hc2 hbig hxl rfl hnil hcs hvs h1v).mono ?_
      rintro e w' ⟨rfl, rfl⟩
      refine ⟨_, rfl, ?_, ?_⟩
      · obtain ⟨hc3, hc4⟩ := hcap cap
        have hsz2 := zs (grownCap w (i + 1) cap 3 - (i + 1))
        generalize grownCap w (i + 1) cap 3 = C at *
        refine grown_own _ _ C (heap_alloc_new w.drew _) (by simp only [Array.size_append, hsz2, List.size_toArray, List.length_append, List.length_singleton, hxl]; omega) hc3 hc4 ?_
        rw [hlist]
        simp only [Array.toList_append]
        rw [List.take_append_of_le_length (by simp [hxl]), List.take_of_length_le (by simp [hxl])]
      · exact (below_drew (Below.refl base w)).alloc hbase _
    rcases ho.2 with ⟨rfl, h0⟩ | ⟨g, cap, cur, rfl, hgb, hg, h1, h2, h3, h4⟩
    · subst h0
      exact new_row none 0 (Nat.le_refl _) (by omega) (fun _ => rfl) (fun a ha => by cases ha)
    · rw [Nat.mul_one] at h3 h4
      rcases Nat.lt_or_ge cap (i + 1) with hr | hr
      · refine new_row _ cap h1 hr (fun hh => by cases hh) (fun a ha j u hj => ?_)
        cases ha
        rw [add_lit, Nat.zero_add, cell_at hg]
        exact take_cells h4 hxl j u hj
      · refine (Try.slices_Insert_int_end_room g 0 i cap vb 0 1 1 [.int .i64 x] w (by omega) hr (by simpa [maxLen] using h2) rfl
          (fun j hj => by rw [cell_at hg]; simp; omega) (fun j hj => free_at hg _) hvs h1v).mono ?_
        rintro e w' ⟨rfl, rfl⟩
        refine ⟨_, rfl, ?_, below_setCells (Below.refl base w) hgb _ _⟩
        obtain ⟨c1, hc1', hs1, ht1⟩ := setCells_row [Value.int .i64 x] (0 + i) w cur hg (by simp; omega)
        refine ⟨by rw [nums_length]; simp; omega, .inr ⟨g, cap, c1, rfl, hgb, hc1', hr, h2, by omega, ?_⟩⟩
        rw [ht1, hlist]
        simp only [Nat.zero_add, List.length_singleton, Nat.mul_one]
        rw [h4, List.take_append_of_le_length (by simp [hxl]), List.take_of_length_le (by simp [hxl])]

theorem delete_list (xs : List Int) (i : Nat) : (nums .i64 (xs.take i ++ xs.drop (i + 1))) = (nums .i64 xs).take i ++ (nums .i64 xs).drop (i + 1) := by
  simp [nums, List.map_take, List.map_drop]
theorem delete_calls (base i n : Nat) (j : Int) (hj : j = (i : Int) + 1) (v : Value) (xs : List Int) (w : World) (ho : w.ownsRow base 3 1 v n (nums .i64 xs)) (hn : xs.length = n) (hi : i < n) :
    Calls Try.prog 25 #[v, .int .i64 i, .int .i64 j] w fun e w' =>
      ∃ v', e = .returned v' ∧ w'.ownsRow base 3 1 v' (n - 1) (nums .i64 (xs.take i ++ xs.drop (i + 1))) ∧ Below base w w' := by
  obtain ⟨g, cap, rfl, hgb, hgl⟩ := ho.form (by omega)
  obtain ⟨cur, _, hg, h1, h2, h3, h4, h5⟩ := own_cells ho
  have hcs : ∀ j, j < xs.length → w.cell? ⟨g, 0 + j, none⟩ = some (.int .i64 (xs.getD j 0)) := by
    intro j hj
    rw [Nat.zero_add, cell_at hg]
    refine take_cells h4 h5 j _ ?_
    simp [nums, List.getElem?_eq_getElem hj, List.getD_eq_getElem?_getD]
  rw [show j = ((i + 1 : Nat) : Int) from by omega]
  refine (Try.slices_Delete_int_cells g 0 n cap i (i + 1) xs w (by omega) h1 (by simpa [maxLen] using h2) (by omega) (by omega) hcs (fun j hj => free_at hg _)).mono ?_
  rintro e w' ⟨rfl, q, rfl⟩
  have hlen : (((xs.take n).take i ++ (xs.take n).drop (i + 1) ++ List.replicate (i + 1 - i) 0).map (Value.int .i64)).length = n := by
    simp only [List.length_map, List.length_append, List.length_take, List.length_drop, List.length_replicate, hn]; omega
  have hg' : (w.drewN q).heap[g]? = some (.cells cur 3 (0, 0)) := hg
  obtain ⟨c1, hc1', hs1, ht1⟩ := setCells_row (((xs.take n).take i ++ (xs.take n).drop (i + 1) ++ List.replicate (i + 1 - i) 0).map (Value.int .i64)) 0 (w.drewN q) cur hg' (by omega)
  have hb : Below base w ((w.drewN q).setCells g 0 (((xs.take n).take i ++ (xs.take n).drop (i + 1) ++ List.replicate (i + 1 - i) 0).map (Value.int .i64))) := below_setCells (pw_below_drewN (Below.refl base w) q) hgb _ _
  refine ⟨_, rfl, ?_, hb⟩
  have e0 : n - (i + 1 - i) = n - 1 := by omega
  rw [e0]
  refine ⟨by rw [nums_length]; simp; omega, .inr ⟨g, cap, c1, rfl, hgb, hc1', by omega, h2, by omega, ?_⟩⟩
  rw [ht1, delete_list, List.take_of_length_le (show xs.length ≤ n by omega)]
  simp only [List.take_zero, List.nil_append, Nat.mul_one, List.map_append, List.append_assoc]
  rw [← List.append_assoc, List.take_append_of_le_length (by simp [hn]; omega), List.take_of_length_le (by simp [hn]; omega)]
  simp [nums, List.map_take, List.map_drop]
/-- The five cells of a step that lies in a block. -/
theorem cells5 {w : World} {g : Nat} {a b c d e : Value} {t : TypeId} (h : w.heap[g]? = some (.cells #[a, b, c, d, e] t (0, 0))) :
    w.cell? ⟨g, 0, none⟩ = some a ∧ w.cell? ⟨g, 1, none⟩ = some b ∧ w.cell? ⟨g, 2, none⟩ = some c ∧ w.cell? ⟨g, 3, none⟩ = some d ∧ w.cell? ⟨g, 4, none⟩ = some e := by
  refine ⟨?_, ?_, ?_, ?_, ?_⟩ <;> (rw [cell_at h]; rfl)
end Go.Proofs.Ytommjjjlljmpbaa.SLib
