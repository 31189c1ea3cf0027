/- Layer 2: dumps and texts are loaded back; the law's own text, walked. -/
import Derived.Test.YtiodfppgcjmlkaaDoorHxW
namespace Go.Proofs.YtiodfppgcjmlkaaDoor
open Go.RowKit

theorem dec_nl (n : Nat) : ∀ c ∈ Lib.decDigits n, c.toNat ≠ 10 := by
  induction n using Nat.strongRecOn with
  | _ n ih =>
    intro c hc
    by_cases h : n < 10
    · rw [Lib.decDigits_one h] at hc
      simp only [List.mem_cons, List.not_mem_nil, or_false] at hc
      subst hc
      rw [UInt8.toNat_ofNat']
      omega
    · rw [dec_rec (by omega)] at hc
      rcases List.mem_append.1 hc with hc | hc
      · exact ih (n / 10) (by omega) c hc
      · simp only [List.mem_cons, List.not_mem_nil, or_false] at hc
        subst hc
        rw [UInt8.toNat_ofNat']
        omega
theorem tail_vals (n : Nat) : dvals false (dTail n) = [] ∧ noteS false (dTail n) = false := by
  obtain ⟨h1, h2⟩ := dvals_note _ (dec_nl n)
  unfold dTail
  rw [dvals_append, dvals_append, noteS_append, noteS_append, noteS_append]
  have e1 : dvals false [32, 32, 35, 32] = [] := by decide
  have e2 : noteS false [32, 32, 35, 32] = true := by decide
  have e3 : dvals true [10] = [] := by decide
  have e4 : noteS true [10] = false := by decide
  rw [e1, e2, h1, h2, e3, e4]
  exact ⟨rfl, rfl⟩
theorem body_vals (l : List UInt8) (i : Nat) : dvals false (dBody l i) = (hexT ((l.drop i).take 1)).map digV ∧ noteS false (dBody l i) = false := by
  have hd := dvals_digits (hexT_digits ((l.drop i).take 1))
  unfold dBody
  rw [dvals_append, noteS_append]
  split
  · exact ⟨hd.1, hd.2⟩
  · have e1 : dvals false [32] = [] := by decide
    have e2 : noteS false [32] = false := by decide
    rw [e1, e2]
    exact ⟨hd.1, hd.2⟩
theorem hexT_append (a b : List UInt8) : hexT (a ++ b) = hexT a ++ hexT b := by unfold hexT; rw [List.flatMap_append]
theorem dump_vals (l : List UInt8) (k : Nat) : dvals false (dumpTo l k) = (hexT (l.take k)).map digV ∧ noteS false (dumpTo l k) = false := by
  induction k with
  | zero => exact ⟨rfl, rfl⟩
  | succ k ih =>
    obtain ⟨b1, b2⟩ := body_vals l k
    have h1 : dvals false (dumpTo l k ++ dBody l k) = (hexT (l.take (k + 1))).map digV := by
      rw [dvals_append, ih.1, ih.2, b1, ← List.map_append, ← hexT_append, List.take_add]
    have h2 : noteS false (dumpTo l k ++ dBody l k) = false := by rw [noteS_append, ih.2, b2]
    obtain ⟨t1, t2⟩ := tail_vals (k - k % 16)
    rw [dumpTo]
    split
    · refine ⟨?_, ?_⟩
      · rw [dvals_append, h1, h2, t1, List.append_nil]
      · rw [noteS_append, h2, t2]
    · rw [List.append_nil]
      exact ⟨h1, h2⟩
theorem dumpL_vals (l : List UInt8) : dvals false (dumpL l) = (hexT l).map digV ∧ noteS false (dumpL l) = false := by
  have h := dump_vals l l.length
  rwa [List.take_length] at h
theorem load_dump (l : List UInt8) : loadL (dumpL l) = l := by rw [loadL_eq, (dumpL_vals l).1, ← pairs_eq, pairs_hexT]
theorem load_dump_text (a b : List UInt8) : loadL (dumpL a ++ hexT b) = a ++ b := by
  rw [loadL_eq, dvals_append, (dumpL_vals a).1, (dumpL_vals a).2, (dvals_digits (hexT_digits b)).1, ← List.map_append, ← hexT_append, ← pairs_eq, pairs_hexT]
theorem load_text_dump (a b : List UInt8) : loadL (hexT b ++ dumpL a) = b ++ a := by
  rw [loadL_eq, dvals_append, (dvals_digits (hexT_digits b)).1, (dvals_digits (hexT_digits b)).2, (dumpL_vals a).1, ← List.map_append, ← hexT_append, ← pairs_eq, pairs_hexT]

set_option maxHeartbeats 2000000 in
theorem hexBack_walk (s t : ByteArray) (w : World) (hT : Tabs w) :
    Calls Tryd.prog 7 #[.string s, .string t] w fun e w' => e = .returned (.bool true) ∧ Below w.heap.size w w' := by
  have hcase : 3000 < s.size ∨ (s.size ≤ 3000 ∧ 3000 < t.size) ∨ (s.size ≤ 3000 ∧ t.size ≤ 3000) := by omega
  rcases hcase with h1 | ⟨h1, h2⟩ | ⟨h1, h2⟩
  · go_enter Tryd.func7, Tryd.ntmps7
    go_wp2_with fail
    refine (hx_awake _ hT).mono ?_
    rintro e w1 ⟨rfl, hb1⟩
    go_wp2_with fail
    go_returns
    exact ⟨rfl, hb1⟩
  · go_enter Tryd.func7, Tryd.ntmps7
    go_wp2_with fail
    refine (hx_awake _ hT).mono ?_
    rintro e w1 ⟨rfl, hb1⟩
    go_wp2_with fail
    go_returns
    exact ⟨rfl, hb1⟩
  · have KD : Hid (∀ d : ByteArray, Hid (d.data.toList = dumpL s.data.toList) → d.size ≤ 87000) := by
      intro d hd
      have h := dumpTo_length s.data.toList s.size (Nat.le_refl _) (by rw [bsize]; omega)
      have h3 := congrArg List.length hd.out
      unfold dumpL at h3
      rw [bsize d, bsize s] at h3
      omega
    have KT : Hid (∀ (x d : ByteArray), x.size ≤ 3000 → Hid (d.data.toList = hexT x.data.toList) → d.size ≤ 6000) := by
      intro x d hx hd
      have h3 := congrArg List.length hd.out
      rw [hexT_length, bsize, bsize] at h3
      omega
    go_enter Tryd.func7, Tryd.ntmps7
    go_wp2_with fail
    refine (hx_awake _ hT).mono ?_
    rintro e w1 ⟨rfl, bel⟩
    have T := hT.below bel
    go_wp2_with fail
    refine (hex_Text s _ (by omega) T.1).mono ?_
    rintro e w2 ⟨⟨a1, rfl, ha1⟩, hb2⟩
    have z1 := KT.out s a1 h1 ha1
    replace bel := bel.trans (hb2.mono bel.size)
    replace T := T.below hb2
    clear hb2
    go_wp2_with fail
    refine (hex_Load a1 _ (by omega) T.1).mono ?_
    rintro e w3 ⟨⟨a2, rfl, ha2⟩, hb3⟩
    obtain rfl : a2 = s := ba_inj (by rw [ha2.out, ha1.out, load_hexT])
    replace bel := bel.trans (hb3.mono bel.size)
    replace T := T.below hb3
    clear hb3 ha1 ha2 z1
    go_wp2_with fail
    refine (hex_Dump a2 _ (by omega) T).mono ?_
    rintro e w4 ⟨⟨d1, rfl, hd1⟩, hb4⟩
    have z2 := KD.out d1 hd1
    replace bel := bel.trans (hb4.mono bel.size)
    replace T := T.below hb4
    clear hb4
    go_wp2_with fail
    refine (hex_Load d1 _ (by omega) T.1).mono ?_
    rintro e w5 ⟨⟨a3, rfl, ha3⟩, hb5⟩
    obtain rfl : a3 = a2 := ba_inj (by rw [ha3.out, hd1.out, load_dump])
    replace bel := bel.trans (hb5.mono bel.size)
    replace T := T.below hb5
    clear hb5 ha3 z2 hd1
    go_wp2_with fail
    refine (hex_Dump a3 _ (by omega) T).mono ?_
    rintro e w6 ⟨⟨d2, rfl, hd2⟩, hb6⟩
    have z3 := KD.out d2 hd2
    replace bel := bel.trans (hb6.mono bel.size)
    replace T := T.below hb6
    clear hb6
    go_wp2_with fail
    refine (hex_Text t _ (by omega) T.1).mono ?_
    rintro e w7 ⟨⟨x1, rfl, hx1⟩, hb7⟩
    have z4 := KT.out t x1 h2 hx1
    replace bel := bel.trans (hb7.mono bel.size)
    replace T := T.below hb7
    clear hb7
    have S1 : Hid ((d2 ++ x1 : ByteArray).size ≤ 1000000000000) := by unfold Hid; rw [ByteArray.size_append]; omega
    have L1 : Hid (loadL (d2 ++ x1 : ByteArray).data.toList = (a3 ++ t : ByteArray).data.toList) := by unfold Hid; rw [ba_append, ba_append, hd2.out, hx1.out, load_dump_text]
    go_wp2_with fail
    refine (hex_Load _ _ S1.out T.1).mono ?_
    rintro e w8 ⟨⟨a4, rfl, ha4⟩, hb8⟩
    obtain rfl : a4 = a3 ++ t := ba_inj (by rw [ha4.out, L1.out])
    replace bel := bel.trans (hb8.mono bel.size)
    replace T := T.below hb8
    clear hb8 ha4 S1 L1 z3 z4 hd2 hx1
    go_wp2_with fail
    refine (hex_Text t _ (by omega) T.1).mono ?_
    rintro e w9 ⟨⟨x2, rfl, hx2⟩, hb9⟩
    have z5 := KT.out t x2 h2 hx2
    replace bel := bel.trans (hb9.mono bel.size)
    replace T := T.below hb9
    clear hb9
    go_wp2_with fail
    refine (hex_Dump a3 _ (by omega) T).mono ?_
    rintro e w10 ⟨⟨d3, rfl, hd3⟩, hb10⟩
    have z6 := KD.out d3 hd3
    replace bel := bel.trans (hb10.mono bel.size)
    replace T := T.below hb10
    clear hb10
    have S2 : Hid ((x2 ++ d3 : ByteArray).size ≤ 1000000000000) := by unfold Hid; rw [ByteArray.size_append]; omega
    have L2 : Hid (loadL (x2 ++ d3 : ByteArray).data.toList = (t ++ a3 : ByteArray).data.toList) := by unfold Hid; rw [ba_append, ba_append, hd3.out, hx2.out, load_text_dump]
    go_wp2_with fail
    refine (hex_Load _ _ S2.out T.1).mono ?_
    rintro e w11 ⟨⟨a5, rfl, ha5⟩, hb11⟩
    obtain rfl : a5 = t ++ a3 := ba_inj (by rw [ha5.out, L2.out])
    replace bel := bel.trans (hb11.mono bel.size)
    clear hb11 ha5 S2 L2 z5 z6 hd3 hx2 T
    go_wp2_with fail
    go_returns
    exact ⟨ret_bool (by simp), bel⟩
end Go.Proofs.YtiodfppgcjmlkaaDoor
