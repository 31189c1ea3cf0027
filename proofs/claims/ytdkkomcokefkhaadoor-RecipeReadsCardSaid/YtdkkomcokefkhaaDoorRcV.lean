/- Layer 37: a recipe read; the document's answer, what is refused; walked. -/
import Derived.BigQuiet
import Derived.Laws.Rows
import Derived.Laws.ResultCell
import Derived.Test.YtdkkomcokefkhaaDoorRcO
import Derived.Test.YtdkkomcokefkhaaDoorRcQ
import Derived.Test.YtdkkomcokefkhaaDoorRcB
namespace Go.Proofs.YtdkkomcokefkhaaDoor
open Go.RowKit

theorem resT_row {P : Program} {fn : Func} {p u : Tmp} {ty : TypeId} (h : fn.results = #[.cell p ty, .tmp u]) (tmps : Array Value) (W : World) (g : Nat) (cs : Array Value) (d : TypeDesc)
    (hp : tmps.getD p undef = .pointer (some ⟨g, 0, none⟩)) (hB : Blk W g ty cs) (hu : P.underlying ty = some d) (hd : (match d with | .struct _ | .array _ _ => true | _ => false) = true) (hi : (P.info? ty).map (·.size) = some cs.size) :
    (results fn tmps).run P W = .ok (.tuple #[.agg cs, tmps.getD u undef]) W := by
  rw [results_cell_tmp h, hp]
  simp [asAddr, run_loadVar_row W g ty ty cs (0, 0) d hB hu hd hi, Result.andThen]
set_option maxRecDepth 100000 in
theorem refR_Read_bad0 (s : ByteArray) (w : World) (h : s.size < 1 ∨ 2000 < s.size ∨ (1 ≤ s.size ∧ s.size ≤ 2000 ∧ s.data.toList.take 1 ≠ [82])) (hm : s.size ≤ 1000000000) :
    Calls Tryd.prog 17 #[.string s] w fun e W' => e = .returned (.tuple #[.agg zrec, .int .i64 7]) ∧ Below w.heap.size w W' := by
  rcases h with h | h | ⟨h1, h2, h3⟩
  · have hlt : (s.size : Int) < 1 := by omega
    go_enter Tryd.func17, Tryd.ntmps17
    go_wp2_with fail
    refine bodyPost_ret (by simp [results, Tryd.results17, go_sem]; try rfl) rfl ?_
    exact ⟨rfl, (Below.refl _ w).alloc (Nat.le_refl _) _⟩
  · have hlt : ¬ (s.size : Int) < 1 := by omega
    have hgt : (2000 : Int) < s.size := by omega
    go_enter Tryd.func17, Tryd.ntmps17
    go_wp2_with fail
    refine bodyPost_ret (by simp [results, Tryd.results17, go_sem]; try rfl) rfl ?_
    exact ⟨rfl, (Below.refl _ w).alloc (Nat.le_refl _) _⟩
  · have hlt : ¬ (s.size : Int) < 1 := by omega
    have hgt : ¬ (2000 : Int) < s.size := by omega
    have h0 : 0 < s.size := by omega
    obtain ⟨x, hx⟩ : ∃ x, s[0] = x := ⟨_, rfl⟩
    have hne : ((x.toNat : Int) != 82) = true := by
      rw [bne_iff_ne]
      intro e
      apply h3
      have hl : 0 < s.data.toList.length := h0
      rw [List.take_succ_eq_append_getElem hl, show s.data.toList[0] = x from hx, show x = 82 from UInt8.toNat_inj.1 (by show x.toNat = 82; omega)]
      rfl
    clear h3
    go_enter Tryd.func17, Tryd.ntmps17
    go_wp2_with fail
    refine bodyPost_ret (by simp [results, Tryd.results17, go_sem]; try rfl) rfl ?_
    exact ⟨rfl, (Below.refl _ w).alloc (Nat.le_refl _) _⟩

/-- What holds of the bytes ahead of the words. -/
structure Hd (s : ByteArray) : Prop where
  h1 : 1 ≤ s.size
  h2 : s.size ≤ 2000
  hx : ∃ x, ∃ h : 0 < s.size, s[0] = x ∧ ((x.toNat : Int) != 82) = false
theorem hd_of {s : ByteArray} (h1 : 1 ≤ s.size) (h2 : s.size ≤ 2000) (h3 : s.data.toList.take 1 = [82]) : Hd s := by
  have h0 : 0 < s.size := by omega
  have hl : 0 < s.data.toList.length := h0
  refine ⟨h1, h2, _, h0, rfl, ?_⟩
  rw [List.take_succ_eq_append_getElem hl] at h3
  have e : s.data.toList[0] = 82 := by injection h3
  rw [show s[0] = s.data.toList[0] from rfl, e]
  rfl
set_option maxRecDepth 100000 in
theorem refR_Read_bad1 (s : ByteArray) (w : World) (hd : Hd s) (h4 : (s.size - 1) % 4 ≠ 0) :
    Calls Tryd.prog 17 #[.string s] w fun e W' => e = .returned (.tuple #[.agg zrec, .int .i64 7]) ∧ Below w.heap.size w W' := by
  obtain ⟨h1, h2, x, h0, hx, hne⟩ := hd
  have hlt : ¬ (s.size : Int) < 1 := by omega
  have hgt : ¬ (2000 : Int) < s.size := by omega
  have hlt1 : (1 : Int) ≤ s.size := by omega
  have hes : (s.extract 1 s.size).size = s.size - 1 := by rw [ByteArray.size_extract]; omega
  have HES := Lib.hid hes
  clear hes
  go_enter Tryd.func17, Tryd.ntmps17
  go_wp2_with fail
  refine (ref_Words_bad _ _ (by rw [HES.out]; omega) (by rw [HES.out]; exact h4)).mono ?_
  rintro e w1 ⟨rfl, rfl⟩
  go_wp2_with fail
  refine bodyPost_ret (by simp [results, Tryd.results17, go_sem]; try rfl) rfl ?_
  exact ⟨rfl, (Below.refl _ w).alloc (Nat.le_refl _) _⟩

/-- The words are refused at once. -/
def headBad (l : List UInt32) : Prop := l.length < 8 ∨ 6 < (lg l 0).toNat ∨ 100000000 < (lg l 5).toNat ∨ 20 < (lg l 6).toNat ∨ l.length < 8 + (lg l 6).toNat
set_option maxRecDepth 100000 in
set_option maxHeartbeats 4000000 in
theorem refR_Read_bad2 (s : ByteArray) (l : List UInt32) (w : World) (hd : Hd s) (h4 : (s.size - 1) % 4 = 0) (hl : wordsL (s.data.toList.drop 1) = l) (hb : headBad l) :
    Calls Tryd.prog 17 #[.string s] w fun e W' => e = .returned (.tuple #[.agg zrec, .int .i64 7]) ∧ Below w.heap.size w W' := by
  obtain ⟨h1, h2, x, h0, hx, hne⟩ := hd
  have hlt : ¬ (s.size : Int) < 1 := by omega
  have hgt : ¬ (2000 : Int) < s.size := by omega
  have hlt1 : (1 : Int) ≤ s.size := by omega
  have hes : (s.extract 1 s.size).size = s.size - 1 := by rw [ByteArray.size_extract]; omega
  have hel : (s.extract 1 s.size).data.toList = s.data.toList.drop 1 := by
    rw [Lib.extract_data]
    exact List.take_of_length_le (by rw [List.length_drop]; show s.size - 1 ≤ _; omega)
  have K : Hid (∀ W : World, Calls Tryd.prog 32 #[.string (s.extract 1 s.size)] W fun e w' => (∃ v, e = .returned (.tuple #[v, .int .i64 0]) ∧ w'.ownsRow W.heap.size 22 1 v l.length (l.map wv)) ∧ Below W.heap.size W w') := by
    intro W
    have k := ref_Words (s.extract 1 s.size) W (by omega) (by omega)
    rw [hel, hl] at k
    exact k
  have hln : l.length ≤ 500 := by
    have e := wordsL_length (s.data.toList.drop 1) ((s.size - 1) / 4) (by rw [List.length_drop]; show s.size - 1 = _; omega)
    rw [hl] at e
    omega
  clear hes hel hl
  go_enter Tryd.func17, Tryd.ntmps17
  go_wp2_with fail
  refine (K.out _).mono ?_
  rintro e w1 ⟨⟨v, rfl, hown⟩, hb1⟩
  obtain ⟨A, c, rfl, -, -, hS⟩ := Sl.of_own hown
  have hz := (Blk.new w 28 #[.int .i64 0, .int .u32 0, .int .u32 0, .int .u32 0, .int .u32 0, .slice none 0 0, .slice none 0 0, .int .i64 0]).below hb1 (by simp)
  have hbel := ((Below.refl _ w).alloc (Nat.le_refl _) (.cells #[.int .i64 0, .int .u32 0, .int .u32 0, .int .u32 0, .int .u32 0, .slice none 0 0, .slice none 0 0, .int .i64 0] 28)).trans (hb1.mono (by simp))
  have HZ := Lib.hid hz
  have HB := Lib.hid hbel
  clear hown hb1 hz hbel
  obtain ⟨⟨z0, z1, z2, z3, z4, z5, z6, z7⟩, y0, y1, y2, y3, y4, y5, y6, y7⟩ := HZ.out.all8
  rcases hb with hn | hb
  · have hnI : (l.length : Int) < 8 := by omega
    clear hn
    go_wp2_with fail
    obtain ⟨W8, hW8, hz8, hb8, -⟩ := HZ.out.out8 HB.out (Nat.le_refl _) (.int .i64 0) (.int .u32 0) (.int .u32 0) (.int .u32 0) (.int .u32 0) (.slice none 0 0) (.slice none 0 0) (.int .i64 0)
    rw [← hW8]
    clear hW8
    refine bodyPost_ret (resT_row Tryd.results17 _ W8 w.heap.size _ _ rfl hz8 Tryd.underlying28 rfl (by kernel_rfl)) rfl ?_
    exact ⟨rfl, hb8⟩
  by_cases hn8 : l.length < 8
  · have hnI : (l.length : Int) < 8 := by omega
    clear hb hn8
    go_wp2_with fail
    obtain ⟨W8, hW8, hz8, hb8, -⟩ := HZ.out.out8 HB.out (Nat.le_refl _) (.int .i64 0) (.int .u32 0) (.int .u32 0) (.int .u32 0) (.int .u32 0) (.slice none 0 0) (.slice none 0 0) (.int .i64 0)
    rw [← hW8]
    clear hW8
    refine bodyPost_ret (resT_row Tryd.results17 _ W8 w.heap.size _ _ rfl hz8 Tryd.underlying28 rfl (by kernel_rfl)) rfl ?_
    exact ⟨rfl, hb8⟩
  have hn8' : 8 ≤ l.length := by omega
  have hnI : ¬ (l.length : Int) < 8 := by omega
  obtain ⟨b, off, rfl, hbl, c0⟩ := hS.word (k := 0) (by omega)
  obtain ⟨b5, off5, e5, hbl5, c5⟩ := hS.word (k := 5) (by omega)
  obtain ⟨b6, off6, e6, hbl6, c6⟩ := hS.word (k := 6) (by omega)
  injection e5 with e5
  injection e5 with e5 e5'
  injection e6 with e6
  injection e6 with e6 e6'
  subst e5 e5' e6 e6'
  rw [Nat.add_zero] at c0
  rw [← lg_get] at c0 c5 c6
  have l0 : 0 < l.length := by omega
  have l5 : 5 < l.length := by omega
  have l6 : 6 < l.length := by omega
  generalize (lg l 0).toNat = x0 at hb c0
  generalize (lg l 5).toNat = x5 at hb c5
  generalize (lg l 6).toNat = x6 at hb c6
  clear hn8 hS hbl hbl5 hbl6
  by_cases g0 : 6 < x0
  · have g0I : (6 : Int) < x0 := by omega
    clear hb
    go_wp2_with fail
    obtain ⟨W8, hW8, hz8, hb8, -⟩ := HZ.out.out8 HB.out (Nat.le_refl _) (.int .i64 0) (.int .u32 0) (.int .u32 0) (.int .u32 0) (.int .u32 0) (.slice none 0 0) (.slice none 0 0) (.int .i64 0)
    rw [← hW8]
    clear hW8
    refine bodyPost_ret (resT_row Tryd.results17 _ W8 w.heap.size _ _ rfl hz8 Tryd.underlying28 rfl (by kernel_rfl)) rfl ?_
    exact ⟨rfl, hb8⟩
  have g0I : ¬ (6 : Int) < x0 := by omega
  by_cases g5 : 100000000 < x5
  · have g5I : (100000000 : Int) < x5 := by omega
    clear hb
    go_wp2_with fail
    obtain ⟨W8, hW8, hz8, hb8, -⟩ := HZ.out.out8 HB.out (Nat.le_refl _) (.int .i64 0) (.int .u32 0) (.int .u32 0) (.int .u32 0) (.int .u32 0) (.slice none 0 0) (.slice none 0 0) (.int .i64 0)
    rw [← hW8]
    clear hW8
    refine bodyPost_ret (resT_row Tryd.results17 _ W8 w.heap.size _ _ rfl hz8 Tryd.underlying28 rfl (by kernel_rfl)) rfl ?_
    exact ⟨rfl, hb8⟩
  have g5I : ¬ (100000000 : Int) < x5 := by omega
  by_cases g6 : 20 < x6
  · have g6I : (20 : Int) < x6 := by omega
    clear hb
    go_wp2_with fail
    obtain ⟨W8, hW8, hz8, hb8, -⟩ := HZ.out.out8 HB.out (Nat.le_refl _) (.int .i64 0) (.int .u32 0) (.int .u32 0) (.int .u32 0) (.int .u32 0) (.slice none 0 0) (.slice none 0 0) (.int .i64 0)
    rw [← hW8]
    clear hW8
    refine bodyPost_ret (resT_row Tryd.results17 _ W8 w.heap.size _ _ rfl hz8 Tryd.underlying28 rfl (by kernel_rfl)) rfl ?_
    exact ⟨rfl, hb8⟩
  have g6I : ¬ (20 : Int) < x6 := by omega
  have g7I : (l.length : Int) < 8 + x6 := by omega
  clear hb
  go_wp2_with fail
  obtain ⟨W8, hW8, hz8, hb8, -⟩ := HZ.out.out8 HB.out (Nat.le_refl _) (.int .i64 0) (.int .u32 0) (.int .u32 0) (.int .u32 0) (.int .u32 0) (.slice none 0 0) (.slice none 0 0) (.int .i64 0)
  rw [← hW8]
  clear hW8
  refine bodyPost_ret (resT_row Tryd.results17 _ W8 w.heap.size _ _ rfl hz8 Tryd.underlying28 rfl (by kernel_rfl)) rfl ?_
  exact ⟨rfl, hb8⟩
end Go.Proofs.YtdkkomcokefkhaaDoor
