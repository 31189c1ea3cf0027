/- Layer 8: an image is read of its bytes; walked. -/
import Derived.Lib.Strings
import Derived.Test.YtekpfpikbgiblaaSeqB
namespace Go.Proofs.Ytekpfpikbgiblaa
open Go.RowKit Go.Shelf

attribute [local go_sem] Oper.semAt_some

/-- What an image's bytes say: its words, and how many words of memory it has; none, if they are no image's. -/
def readI (l : List UInt8) : Option (List UInt32 × Nat) :=
  if l.length < 12 then none else if l.take 4 ≠ [83, 69, 69, 68] then none else if 65548 < l.length then none
  else match wordsL ((l.drop 4).take 8) with
    | [n, d] => if 32768 < d.toNat then none else if l.length ≠ 12 + 4 * n.toNat then none else some (wordsL (l.drop 12), d.toNat)
    | _ => none
theorem two_words (l : List UInt8) (h : l.length = 8) : ∃ n d, wordsL l = [n, d] := by
  have := wordsL_length l 2 h
  match wordsL l, this with
  | [n, d], _ => exact ⟨n, d, rfl⟩

set_option maxRecDepth 100000 in
set_option maxHeartbeats 1000000 in
theorem imgRead_ok (s : ByteArray) (code : List UInt32) (d : Nat) (w : World) (h : readI s.data.toList = some (code, d)) :
    CallsIn Fence.wide 8 Try.prog 8 #[.string s] w fun e W' => (∃ v, e = .returned (.tuple #[.agg #[v, .int .i64 d], .int .i64 0]) ∧ W'.ownsRow w.heap.size 31 1 v code.length (code.map wv)) ∧ Below w.heap.size w W' := by
  have hl : s.data.toList.length = s.size := rfl
  unfold readI at h
  rw [hl] at h
  by_cases h1 : s.size < 12
  · rw [if_pos h1] at h; cases h
  rw [if_neg h1] at h
  by_cases h2 : s.data.toList.take 4 ≠ [83, 69, 69, 68]
  · rw [if_pos h2] at h; cases h
  rw [if_neg h2] at h
  by_cases h3 : 65548 < s.size
  · rw [if_pos h3] at h; cases h
  rw [if_neg h3] at h
  obtain ⟨nw, dw, hnd⟩ := two_words ((s.data.toList.drop 4).take 8) (by rw [List.length_take, List.length_drop]; omega)
  rw [hnd] at h
  dsimp only at h
  by_cases h4 : 32768 < dw.toNat
  · rw [if_pos h4] at h; cases h
  rw [if_neg h4] at h
  by_cases h5 : s.size ≠ 12 + 4 * nw.toNat
  · rw [if_pos h5] at h; cases h
  rw [if_neg h5] at h
  injection h with h
  obtain ⟨hcode, hd⟩ := Prod.mk.inj h
  clear h
  have hmark : (s.extract 0 4).toList = [83, 69, 69, 68] := by
    rw [Lib.extract_toList]; simpa using h2
  have hE1 : Hid ((s.extract 4 12).data.toList = (s.data.toList.drop 4).take 8) := Lib.extract_data s 4 12
  have hE2 : Hid ((s.extract 12 s.size).data.toList = s.data.toList.drop 12) := by
    unfold Hid; rw [Lib.extract_data, List.take_of_length_le (by rw [List.length_drop]; omega)]
  have hE1s : (s.extract 4 12).size = 8 := by
    have h : (s.extract 4 12).data.toList.length = (s.extract 4 12).size := rfl
    rw [hE1.out, List.length_take, List.length_drop] at h; omega
  have HND := Lib.hid hnd
  have HC := Lib.hid hcode
  have HD := Lib.hid hd
  have h5' : s.size = 12 + 4 * nw.toNat := by omega
  have H5 := Lib.hid h5'
  have h1' : 12 ≤ s.size := by omega
  have h3' : s.size ≤ 65548 := by omega
  have hz1 : ¬ (s.size : Int) < 12 := by omega
  have hz3 : ¬ 65548 < (s.size : Int) := by omega
  have hz4 : ¬ 32768 < (dw.toNat : Int) := by omega
  have hnw := nw.toNat_lt
  have hz5 : ((s.size : Int) != 12 + 4 * (nw.toNat : Int)) = false := by rw [bne_eq_false_iff_eq]; omega
  clear hl h1 h2 h3 h4 h5 hnd hcode hd h5'
  refine callsIn_of_wp_marks Try.func8 rfl trivial ?_ rfl
  simp only [Try.ntmps8, List.size_toArray, List.length_cons, List.length_nil, Nat.reduceAdd, Nat.reduceSub, Array.replicate_succ, Array.replicate_zero, List.push_toArray, List.append_toArray, List.nil_append, List.cons_append]
  gi_wp2_with (fail)
  refine ⟨trivial, ?_⟩
  refine (image_words 7 _ _).mono ?_
  rintro e w2 ⟨rfl, rfl⟩
  gi_wp2_with (fail)
  refine ⟨trivial, ?_⟩
  refine (collect_words 7 (by decide) (w.heap.size + 1) (s.extract 4 12) (by rw [hE1s]; decide) _ (by simp) (by rw [← World.size_alloc w (.cells #[.slice none 0 0, .int .i64 0] 24)]; exact World.cell?_alloc_mark _ _ _ _ _)).mono ?_
  rintro e w3 ⟨v3, rfl, hown3, hb3⟩
  rw [hE1.out, HND.out] at hown3
  have hB3 : Below w.heap.size w w3 := (((Below.refl _ w).alloc (Nat.le_refl _) _).alloc (by simp) _).trans (hb3.mono (by simp; omega))
  have hi0 : w3.cell? ⟨w.heap.size, 0, none⟩ = some (.slice none 0 0) := (hb3.cell (p := ⟨w.heap.size, 0, none⟩) (by simp; omega)).trans ((World.cell?_alloc_lt _ _ _ (by simp)).trans (World.cell?_alloc_mark _ _ _ _ _))
  have hi1 : w3.cell? ⟨w.heap.size, 1, none⟩ = some (.int .i64 0) := (hb3.cell (p := ⟨w.heap.size, 1, none⟩) (by simp; omega)).trans ((World.cell?_alloc_lt _ _ _ (by simp)).trans (World.cell?_alloc_mark _ _ _ _ _))
  have hf0 : w3.frozen? ⟨w.heap.size, 0, none⟩ = false := (hb3.frozen (p := ⟨w.heap.size, 0, none⟩) (by simp; omega)).trans (by simp [go_sem])
  have hf1 : w3.frozen? ⟨w.heap.size, 1, none⟩ = false := (hb3.frozen (p := ⟨w.heap.size, 1, none⟩) (by simp; omega)).trans (by simp [go_sem])
  have hs3 : w.heap.size + 2 ≤ w3.heap.size := by have := hb3.size; simp at this; omega
  obtain ⟨g, c3, rfl, hg, hg3, hc3⟩ := own_form hown3 (Nat.zero_lt_succ 1)
  have hn : w3.cell? ⟨g, 0, none⟩ = some (.int .u32 nw.toNat) := own_cell hown3 (k := 0) rfl
  have hd : w3.cell? ⟨g, 1, none⟩ = some (.int .u32 dw.toNat) := own_cell hown3 (k := 1) rfl
  simp at hg
  clear hb3 hown3 hE1s
  obtain ⟨i0, hi, hz0, hz1', hz2⟩ := info_parts info_u32
  gi_wp2_with (gi_at_make; refine wpListIn_make_own _ rfl _ _ 22 rfl w3.heap.size 31 i0 (.int .u32 0) 1 Try.underlying22 hi hz0 hz1' _ _ _ nw.toNat rfl rfl rfl (by rw [hz2]; omega) (by unfold maxLen; omega) (Nat.le_refl _) ?_; intro w4 hown4 hg4)
  have hb4 : Below w3.heap.size w3 w4 := (Below.refl _ w3).grown hg4 (Nat.le_refl _) (fun k hk => by cases hk)
  refine ⟨trivial, ?_⟩
  refine (image_words 7 _ _).mono ?_
  rintro e w2 ⟨rfl, rfl⟩
  gi_wp2_with (fail)
  obtain ⟨wq, hwq⟩ : ∃ wq, (w4.alloc (.cells #[.slice (some ⟨w3.heap.size, 0, none⟩) 0 nw.toNat] 22)) = wq := ⟨_, rfl⟩
  have hsq : wq.heap.size = w4.heap.size + 1 := by rw [← hwq]; simp
  have hbq : Below w3.heap.size w3 wq := by rw [← hwq]; exact hb4.alloc hb4.size _
  have hBox : Boxed wq w4.heap.size 22 (.slice (some ⟨w3.heap.size, 0, none⟩) 0 nw.toNat) := by rw [← hwq]; exact Boxed.new _ _ _
  have hownq : wq.ownsRow w3.heap.size 31 1 (.slice (some ⟨w3.heap.size, 0, none⟩) 0 nw.toNat) 0 [] := by rw [← hwq]; exact hown4.alloc _
  rw [hwq]
  have hs4 := hb4.size
  have hE2s : (s.extract 12 s.size).size ≤ 1000000 := by
    have h : (s.extract 12 s.size).data.toList.length = (s.extract 12 s.size).size := rfl
    rw [hE2.out, List.length_drop] at h
    have h2 : s.data.toList.length = s.size := rfl
    omega
  have hE2d : (s.extract 12 s.size).size / 4 = nw.toNat := by
    have h : (s.extract 12 s.size).data.toList.length = (s.extract 12 s.size).size := rfl
    rw [hE2.out, List.length_drop] at h
    have h2 : s.data.toList.length = s.size := rfl
    have := H5.out; omega
  refine rangeFunc_T (fun t x => (t.setIfInBounds 57 (.int .u32 x.toNat)).setIfInBounds 7 (.int .u32 x.toNat)) rfl (by decide) (gf := 16) (lb := #[.pointer (some ⟨w4.heap.size + 1, 0, none⟩)]) rfl trivial (enters_of Try.func16 (by kernel_rfl) rfl)
    (words_stops 7 (by decide) (w4.heap.size + 1) (s.extract 12 s.size) (by omega) _ (by simp; omega) (by rw [← hsq]; exact World.cell?_alloc_mark _ _ _ _ _)) keepCell_t (keepCell_b (by simp; omega)) (Below.refl _ _) (fun _ => rfl)
    (fun (pre : List UInt32) W => (∃ v, Boxed W w4.heap.size 22 v ∧ W.ownsRow w3.heap.size 31 1 v pre.length (pre.map wv) ∧ True) ∧ Below w3.heap.size w3 W ∧ Boxed W (w4.heap.size + 1) 9 (.string (s.extract 12 s.size)))
    (fun _ _ _ => False)
    (OwnFrom.and (Own.from (holdsRow_own w3.heap.size w4.heap.size 22 31 1 (fun pre : List UInt32 => pre.length) (fun pre : List UInt32 => pre.map wv) (fun _ _ => True)) _) (OwnFrom.and (ownFrom_below (Nat.le_refl _) (by have := hbq.size; simp; omega)) (Own.from (boxed_own (w4.heap.size + 1) 9 (fun _ : List UInt32 => .string (s.extract 12 s.size))) _)))
    (fun _ _ _ _ _ hs _ _ => hs)
    ⟨⟨_, hBox.alloc _, hownq.alloc _, trivial⟩, hbq.alloc hbq.size _, by rw [← hsq]; exact Boxed.new _ _ _⟩ ?assign ?body ?done ?stop
  case assign =>
    intro l x W K hK
    gi_wp2
    exact hK
  case body =>
    rintro l pre x W ⟨⟨v, hv, hrow, _⟩, hB, hStr⟩ hlt
    have hc1 := hv.cell
    have hpl : pre.length ≤ 1000000 := by omega
    have hs5 := hB.size
    clear hi0 hi1 hf0 hf1 hn hd hown4 hownq hBox hwq
    simp only [List.setIfInBounds_toArray, List.set_cons_succ, List.set_cons_zero]
    gi_wp2_with (gi_at_builtin; refine wpListIn_append_own _ rfl _ _ 22 rfl w3.heap.size 31 i0 (.int .u32 0) 1 4 Try.underlying22 hi hz0 hz1' hz2 rfl (by decide) _ _ _ rfl (hrow.alloc _) ⟨W.heap.size, 0, none⟩ 1 1 [.int .u32 x.toNat] rfl rfl (cell_one_new _ _ _) (by simp [Value.oneCell']) (by unfold maxLen; omega) (by omega) (by simp; omega) ?_; intro v' w1 hown' hgrow _; obtain ⟨g', cap', rfl⟩ := ownsRow_succ hown'; obtain ⟨hv1, hv2, hr2, hk2, hb2⟩ := hv.appended (by decide) hrow hB.size hs4 hown' hgrow; have hStr1 := ((hStr.alloc _).kept hgrow (hStr.not_row (by decide) hrow)).other (B' := w4.heap.size) (by omega) (.slice (some ⟨g', 0, none⟩) (pre.length + 1) cap'); have hc2 := hv1.cell; have hf2 := hv1.frozen)
    exact ⟨hk2.from _, hStr1.cell.trans hStr.cell.symm, ⟨_, hv2, by rw [List.length_append, List.map_append]; exact hr2, trivial⟩, hB.trans hb2, hStr1⟩
  case done =>
    rintro D ys W hD hys ⟨⟨v, hv, hrow, _⟩, hB, _⟩ hK
    obtain rfl : ys = code := by rw [hys, hE2.out, HC.out]
    clear hys
    have hc1 := hv.cell
    have hi0' := (hB.cell (p := ⟨w.heap.size, 0, none⟩) (by simp; omega)).trans hi0
    have hi1' := (hB.cell (p := ⟨w.heap.size, 1, none⟩) (by simp; omega)).trans hi1
    have hf0' := (hB.frozen (p := ⟨w.heap.size, 0, none⟩) (by simp; omega)).trans hf0
    have hf1' := (hB.frozen (p := ⟨w.heap.size, 1, none⟩) (by simp; omega)).trans hf1
    have hd' := (hB.cell (p := ⟨g, 1, none⟩) hg3).trans hd
    clear hi0 hi1 hf0 hf1 hn hd hown4 hownq hBox hwq
    have hsz := hB.size
    have hbx := hv.lt
    obtain ⟨A5, c5, rfl, _, _, _⟩ := Sl.of_own hrow
    gi_wp2
    gi_region
    all_goals gi_wp2
    have hDw : w.heap.size ≠ D := by simp at hD; omega
    have hrow1 : (((W.setCell ⟨w.heap.size, 0, none⟩ (.slice A5 ys.length c5)).setCell ⟨w.heap.size, 1, none⟩ (.int .i64 dw.toNat)).drew).ownsRow w3.heap.size 31 1 (.slice A5 ys.length c5) ys.length (ys.map wv) :=
      ownsRow_setCell_below (ownsRow_setCell_below hrow (show w.heap.size < _ by omega) _) (show w.heap.size < _ by omega) _
    have hK1 : (((W.setCell ⟨w.heap.size, 0, none⟩ (.slice A5 ys.length c5)).setCell ⟨w.heap.size, 1, none⟩ (.int .i64 dw.toNat)).drew).heap[D]? = some (.deferred (some [])) :=
      ((Below.heap_setCell _ _ _ D (fun e => hDw e.symm)).trans (Below.heap_setCell _ _ _ D (fun e => hDw e.symm))).trans hK
    have hBf : Below w.heap.size w (((W.setCell ⟨w.heap.size, 0, none⟩ (.slice A5 ys.length c5)).setCell ⟨w.heap.size, 1, none⟩ (.int .i64 dw.toNat)).drew) :=
      (((hB3.trans (hB.mono (by omega))).setCell (p := ⟨w.heap.size, 0, none⟩) (Nat.le_refl _) _).setCell (p := ⟨w.heap.size, 1, none⟩) (Nat.le_refl _) _).drew
    obtain ⟨c0, c1⟩ := two_cells (.slice A5 ys.length c5) (.int .i64 dw.toNat) hi0' hi1'
    obtain ⟨Wf, hWf⟩ : ∃ Wf, ((W.setCell ⟨w.heap.size, 0, none⟩ (.slice A5 ys.length c5)).setCell ⟨w.heap.size, 1, none⟩ (.int .i64 dw.toNat)).drew = Wf := ⟨_, rfl⟩
    have c0' : Wf.cell? ⟨w.heap.size, 0, none⟩ = some (.slice A5 ys.length c5) := by rw [← hWf]; exact c0
    have c1' : Wf.cell? ⟨w.heap.size, 1, none⟩ = some (.int .i64 dw.toNat) := by rw [← hWf]; exact c1
    rw [hWf] at hrow1 hK1 hBf ⊢
    refine ⟨by simp, .inl ⟨_, _, rfl, run_takeDeferred hK1, ?_⟩⟩
    have d0 : (Wf.putObj D (.deferred none)).cell? ⟨w.heap.size, 0, none⟩ = some (.slice A5 ys.length c5) := (World.cell?_of_block (World.putObj_heap_other hDw)).trans c0'
    have d1 : (Wf.putObj D (.deferred none)).cell? ⟨w.heap.size, 1, none⟩ = some (.int .i64 dw.toNat) := (World.cell?_of_block (World.putObj_heap_other hDw)).trans c1'
    have hrow2 := ownsRow_putObj hrow1 (.deferred none) hK1 rfl
    have hBg := hBf.trans (belowK_b (w := w) (Nat.le_refl _) Wf D _ (.deferred none) (by simp at hD; omega) hK1 rfl rfl)
    rw [← HD.out]
    exact ⟨.tuple #[.agg #[.slice A5 ys.length c5, .int .i64 dw.toNat], .int .i64 0], by simp [results, Try.results8, go_sem, d0, d1], ⟨_, rfl, own_base hrow2 (by omega)⟩, hBg⟩
  case stop =>
    rintro D c pre W _ _ h _
    exact h.elim

/-- The end of a refused reading: the zero image, the error's number. -/
theorem imgRead_bad1 (s : ByteArray) (w : World) (h : s.size < 12 ∨ (12 ≤ s.size ∧ s.data.toList.take 4 ≠ [83, 69, 69, 68]) ∨ (12 ≤ s.size ∧ s.data.toList.take 4 = [83, 69, 69, 68] ∧ 65548 < s.size)) (hm : s.size ≤ 1000000000000) :
    CallsIn Fence.wide 8 Try.prog 8 #[.string s] w fun e W' => e = .returned (.tuple #[.agg #[.slice none 0 0, .int .i64 0], .int .i64 7]) ∧ Below w.heap.size w W' := by
  have hx : (s.extract 0 4).toList = s.data.toList.take 4 := by rw [Lib.extract_toList]; rfl
  rcases h with h | ⟨h1, h2⟩ | ⟨h1, h2, h3⟩
  · have hlt : (s.size : Int) < 12 := by omega
    clear hx
    refine callsIn_of_wp_marks Try.func8 rfl trivial ?_ rfl
    simp only [Try.ntmps8, List.size_toArray, List.length_cons, List.length_nil, Nat.reduceAdd, Nat.reduceSub, Array.replicate_succ, Array.replicate_zero, List.push_toArray, List.append_toArray, List.nil_append, List.cons_append]
    gi_wp2_with (fail)
    exact ⟨.tuple #[.agg #[.slice none 0 0, .int .i64 0], .int .i64 7], by simp [results, Try.results8, go_sem], rfl, (Below.refl _ w).alloc (Nat.le_refl _) _⟩
  · have hlt : ¬ (s.size : Int) < 12 := by omega
    rw [← hx] at h2
    clear hx
    refine callsIn_of_wp_marks Try.func8 rfl trivial ?_ rfl
    simp only [Try.ntmps8, List.size_toArray, List.length_cons, List.length_nil, Nat.reduceAdd, Nat.reduceSub, Array.replicate_succ, Array.replicate_zero, List.push_toArray, List.append_toArray, List.nil_append, List.cons_append]
    gi_wp2_with (fail)
    exact ⟨.tuple #[.agg #[.slice none 0 0, .int .i64 0], .int .i64 7], by simp [results, Try.results8, go_sem], rfl, (Below.refl _ w).alloc (Nat.le_refl _) _⟩
  · have hlt : ¬ (s.size : Int) < 12 := by omega
    have h3' : 65548 < (s.size : Int) := by omega
    rw [← hx] at h2
    clear hx
    refine callsIn_of_wp_marks Try.func8 rfl trivial ?_ rfl
    simp only [Try.ntmps8, List.size_toArray, List.length_cons, List.length_nil, Nat.reduceAdd, Nat.reduceSub, Array.replicate_succ, Array.replicate_zero, List.push_toArray, List.append_toArray, List.nil_append, List.cons_append]
    gi_wp2_with (fail)
    exact ⟨.tuple #[.agg #[.slice none 0 0, .int .i64 0], .int .i64 7], by simp [results, Try.results8, go_sem], rfl, (Below.refl _ w).alloc (Nat.le_refl _) _⟩

set_option maxHeartbeats 1000000 in
theorem imgRead_bad2 (s : ByteArray) (nw dw : UInt32) (w : World) (h1 : 12 ≤ s.size) (h2 : s.data.toList.take 4 = [83, 69, 69, 68]) (h3 : s.size ≤ 65548) (hnd : wordsL ((s.data.toList.drop 4).take 8) = [nw, dw])
    (h : 32768 < dw.toNat ∨ (dw.toNat ≤ 32768 ∧ s.size ≠ 12 + 4 * nw.toNat)) :
    CallsIn Fence.wide 8 Try.prog 8 #[.string s] w fun e W' => e = .returned (.tuple #[.agg #[.slice none 0 0, .int .i64 0], .int .i64 7]) ∧ Below w.heap.size w W' := by
  have hl : s.data.toList.length = s.size := rfl
  have hmark : (s.extract 0 4).toList = [83, 69, 69, 68] := by
    rw [Lib.extract_toList]; exact h2
  have hE1 : Hid ((s.extract 4 12).data.toList = (s.data.toList.drop 4).take 8) := Lib.extract_data s 4 12
  have hE1s : (s.extract 4 12).size = 8 := by
    have h : (s.extract 4 12).data.toList.length = (s.extract 4 12).size := rfl
    rw [hE1.out, List.length_take, List.length_drop] at h; omega
  have HND := Lib.hid hnd
  have hz1 : ¬ (s.size : Int) < 12 := by omega
  have hz3 : ¬ 65548 < (s.size : Int) := by omega
  have hnw := nw.toNat_lt
  have hdw := dw.toNat_lt
  have hz4 : 32768 < (dw.toNat : Int) ∨ ((dw.toNat : Int) ≤ 32768 ∧ ((s.size : Int) != 12 + 4 * (nw.toNat : Int)) = true) := by
    rcases h with h | ⟨h, h'⟩
    · exact .inl (by omega)
    · exact .inr ⟨by omega, by rw [bne_iff_ne]; omega⟩
  have HZ := Lib.hid hz4
  clear hl h hnd hz4 h2
  refine callsIn_of_wp_marks Try.func8 rfl trivial ?_ rfl
  simp only [Try.ntmps8, List.size_toArray, List.length_cons, List.length_nil, Nat.reduceAdd, Nat.reduceSub, Array.replicate_succ, Array.replicate_zero, List.push_toArray, List.append_toArray, List.nil_append, List.cons_append]
  gi_wp2_with (fail)
  refine ⟨trivial, ?_⟩
  refine (image_words 7 _ _).mono ?_
  rintro e w2 ⟨rfl, rfl⟩
  gi_wp2_with (fail)
  refine ⟨trivial, ?_⟩
  refine (collect_words 7 (by decide) (w.heap.size + 1) (s.extract 4 12) (by rw [hE1s]; decide) _ (by simp) (by rw [← World.size_alloc w (.cells #[.slice none 0 0, .int .i64 0] 24)]; exact World.cell?_alloc_mark _ _ _ _ _)).mono ?_
  rintro e w3 ⟨v3, rfl, hown3, hb3⟩
  rw [hE1.out, HND.out] at hown3
  have hB3 : Below w.heap.size w w3 := (((Below.refl _ w).alloc (Nat.le_refl _) _).alloc (by simp) _).trans (hb3.mono (by simp; omega))
  have hi0 : w3.cell? ⟨w.heap.size, 0, none⟩ = some (.slice none 0 0) := (hb3.cell (p := ⟨w.heap.size, 0, none⟩) (by simp; omega)).trans ((World.cell?_alloc_lt _ _ _ (by simp)).trans (World.cell?_alloc_mark _ _ _ _ _))
  have hi1 : w3.cell? ⟨w.heap.size, 1, none⟩ = some (.int .i64 0) := (hb3.cell (p := ⟨w.heap.size, 1, none⟩) (by simp; omega)).trans ((World.cell?_alloc_lt _ _ _ (by simp)).trans (World.cell?_alloc_mark _ _ _ _ _))
  have hf0 : w3.frozen? ⟨w.heap.size, 0, none⟩ = false := (hb3.frozen (p := ⟨w.heap.size, 0, none⟩) (by simp; omega)).trans (by simp [go_sem])
  have hf1 : w3.frozen? ⟨w.heap.size, 1, none⟩ = false := (hb3.frozen (p := ⟨w.heap.size, 1, none⟩) (by simp; omega)).trans (by simp [go_sem])
  have hs3 : w.heap.size + 2 ≤ w3.heap.size := by have := hb3.size; simp at this; omega
  obtain ⟨g, c3, rfl, hg, hg3, hc3⟩ := own_form hown3 (Nat.zero_lt_succ 1)
  have hn : w3.cell? ⟨g, 0, none⟩ = some (.int .u32 nw.toNat) := own_cell hown3 (k := 0) rfl
  have hd : w3.cell? ⟨g, 1, none⟩ = some (.int .u32 dw.toNat) := own_cell hown3 (k := 1) rfl
  simp at hg
  clear hb3 hown3 hE1s
  rcases HZ.out with hz4 | ⟨hz4, hz5⟩
  all_goals
    gi_wp2_with (fail)
    obtain ⟨c0, c1⟩ := two_cells (.slice none 0 0) (.int .i64 0) hi0 hi1
    exact ⟨.tuple #[.agg #[.slice none 0 0, .int .i64 0], .int .i64 7], by simp [results, Try.results8, go_sem, c0, c1], rfl, (hB3.setCell (p := ⟨w.heap.size, 0, none⟩) (Nat.le_refl _) _).setCell (p := ⟨w.heap.size, 1, none⟩) (Nat.le_refl _) _⟩

theorem imgRead_bad (s : ByteArray) (w : World) (hm : s.size ≤ 1000000000000) (h : readI s.data.toList = none) :
    CallsIn Fence.wide 8 Try.prog 8 #[.string s] w fun e W' => e = .returned (.tuple #[.agg #[.slice none 0 0, .int .i64 0], .int .i64 7]) ∧ Below w.heap.size w W' := by
  have hl : s.data.toList.length = s.size := rfl
  unfold readI at h
  rw [hl] at h
  by_cases h1 : s.size < 12
  · exact imgRead_bad1 s w (.inl h1) hm
  rw [if_neg h1] at h
  by_cases h2 : s.data.toList.take 4 ≠ [83, 69, 69, 68]
  · exact imgRead_bad1 s w (.inr (.inl ⟨by omega, h2⟩)) hm
  rw [if_neg h2] at h
  have h2' : s.data.toList.take 4 = [83, 69, 69, 68] := Decidable.of_not_not h2
  by_cases h3 : 65548 < s.size
  · exact imgRead_bad1 s w (.inr (.inr ⟨by omega, h2', h3⟩)) hm
  rw [if_neg h3] at h
  obtain ⟨nw, dw, hnd⟩ := two_words ((s.data.toList.drop 4).take 8) (by rw [List.length_take, List.length_drop]; omega)
  rw [hnd] at h
  dsimp only at h
  by_cases h4 : 32768 < dw.toNat
  · exact imgRead_bad2 s nw dw w (by omega) h2' (by omega) hnd (.inl h4)
  rw [if_neg h4] at h
  by_cases h5 : s.size ≠ 12 + 4 * nw.toNat
  · exact imgRead_bad2 s nw dw w (by omega) h2' (by omega) hnd (.inr ⟨by omega, h5⟩)
  rw [if_neg h5] at h
  cases h

theorem image_Read (s : ByteArray) (w : World) (hm : s.size ≤ 1000000000000) :
    Calls Try.prog 8 #[.string s] w fun e W' => (match readI s.data.toList with
      | some (code, d) => ∃ v, e = .returned (.tuple #[.agg #[v, .int .i64 d], .int .i64 0]) ∧ W'.ownsRow w.heap.size 31 1 v code.length (code.map wv)
      | none => e = .returned (.tuple #[.agg #[.slice none 0 0, .int .i64 0], .int .i64 7])) ∧ Below w.heap.size w W' := by
  refine (callsIn_wide (n := 8)).1 ?_
  cases h : readI s.data.toList with
  | none => exact imgRead_bad s w hm h
  | some p => exact imgRead_ok s p.1 p.2 w h
end Go.Proofs.Ytekpfpikbgiblaa
