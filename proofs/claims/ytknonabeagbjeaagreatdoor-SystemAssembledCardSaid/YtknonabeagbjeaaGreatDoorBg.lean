/- Layer 12: an operand, walked (printed by gen/aopnd.py). -/
import Derived.Test.YtknonabeagbjeaaGreatDoorBf
namespace Go.Proofs.YtknonabeagbjeaaGreatDoor
open Go.RowKit

theorem parseW_err (l : List UInt8) : (parseW l).2 = 0 ∨ (parseW l).2 = 2 ∨ (parseW l).2 = 3 := by
  unfold parseW
  split
  · exact .inr (.inr rfl)
  · split
    · exact .inr (.inl rfl)
    · exact .inl rfl
theorem prefix_one (s : ByteArray) (c : UInt8) : Lib.hasPrefix s.data.toList [c] = decide (s.data.toList.head? = some c) := by
  unfold Lib.hasPrefix
  cases s.data.toList with
  | nil => rfl
  | cons x r =>
    by_cases h : c = x
    · subst h; simp [List.isPrefixOf]
    · rw [decide_eq_false (by simp; exact fun e => h e.symm)]
      simp [List.isPrefixOf, h]
theorem prefix_two (l : List UInt8) : Lib.hasPrefix l [48, 120] = decide (l.take 2 = [48, 120]) := by
  unfold Lib.hasPrefix
  match l with
  | [] => rfl
  | [x] => simp [List.isPrefixOf]
  | x :: y :: r =>
    by_cases h : x = 48
    · by_cases h2 : y = 120
      · subst h h2; simp [List.isPrefixOf]
      · rw [decide_eq_false (by simp [h2])]
        simp [List.isPrefixOf]
        exact fun _ => Ne.symm h2
    · rw [decide_eq_false (by simp [h])]
      simp [List.isPrefixOf]
      exact fun e => absurd e (Ne.symm h)
theorem str_Cut1 (s : ByteArray) (c : UInt8) (w : World) :
    Calls Tryz.prog 67 #[.string s, .string ⟨#[c]⟩] w fun e w' => e = .returned (.tuple #[.string (if s.data.toList.head? = some c then bs (s.data.toList.drop 1) else s), .bool (decide (s.data.toList.head? = some c))]) ∧ w' = w := by
  refine (strings_CutPrefix s ⟨#[c]⟩ w).mono ?_
  rintro e w' ⟨rfl, rfl⟩
  refine ⟨?_, rfl⟩
  rw [show (⟨#[c]⟩ : ByteArray).data.toList = [c] from rfl]
  unfold Lib.trimPrefix
  rw [prefix_one]
  by_cases h : s.data.toList.head? = some c
  · rw [decide_eq_true h, if_pos rfl, if_pos h]; rfl
  · rw [decide_eq_false h, if_neg (by decide), if_neg h]
theorem str_CutX (s : ByteArray) (w : World) :
    Calls Tryz.prog 67 #[.string s, .string ⟨#[48, 120]⟩] w fun e w' => e = .returned (.tuple #[.string (if s.data.toList.take 2 = [48, 120] then bs (s.data.toList.drop 2) else s), .bool (decide (s.data.toList.take 2 = [48, 120]))]) ∧ w' = w := by
  refine (strings_CutPrefix s ⟨#[48, 120]⟩ w).mono ?_
  rintro e w' ⟨rfl, rfl⟩
  refine ⟨?_, rfl⟩
  rw [show (⟨#[48, 120]⟩ : ByteArray).data.toList = [48, 120] from rfl]
  unfold Lib.trimPrefix
  rw [prefix_two]
  by_cases h : s.data.toList.take 2 = [48, 120]
  · rw [decide_eq_true h, if_pos rfl, if_pos h]; rfl
  · rw [decide_eq_false h, if_neg (by decide), if_neg h]
theorem char_three {s : ByteArray} (h : s.size = 3) : s.data.toList = [s[0]'(by omega), s[1]'(by omega), s[2]'(by omega)] := by
  have hl : s.data.toList.length = 3 := h
  match hh : s.data.toList, hl with
  | [a, b, c], _ =>
    have e0 : s[0]'(by omega) = a := by show s.data.toList[0]'_ = a; simp [hh]
    have e1 : s[1]'(by omega) = b := by show s.data.toList[1]'_ = b; simp [hh]
    have e2 : s[2]'(by omega) = c := by show s.data.toList[2]'_ = c; simp [hh]
    rw [e0, e1, e2]
theorem char_not {s : ByteArray} (h : s.size ≠ 3) : charX s.data.toList = none := by
  unfold charX
  split
  · rename_i a b c e
    exact absurd (show s.size = 3 from by rw [size_len, e]; rfl) h
  · rfl
theorem has_char (b : UInt8) : (⟨#[39, 35, 44, 58]⟩ : ByteArray).data.toList.contains b = decide (b = 39 ∨ b = 35 ∨ b = 44 ∨ b = 58) := by
  show [(39 : UInt8), 35, 44, 58].contains b = _
  simp [List.contains, List.elem]
  cases h1 : b == 39 <;> cases h2 : b == 35 <;> cases h3 : b == 44 <;> cases h4 : b == 58 <;> simp_all
theorem beq_int {x c : UInt8} (h : x = c) : ((x.toNat : Int) == (c.toNat : Int)) = true := by rw [h]; exact beq_self_eq_true _
theorem bne_int {x c : UInt8} (h : x ≠ c) : ((x.toNat : Int) == (c.toNat : Int)) = false := by
  rw [beq_eq_false_iff_ne]
  intro e
  exact h (UInt8.toNat_inj.1 (by omega))

set_option maxRecDepth 100000 in
set_option maxHeartbeats 16000000 in
theorem asm_operandOf (s : ByteArray) (w : World) (hs : s.size ≤ 1000000) (hT : Small w) :
    Calls Tryz.prog 37 #[.string s] w fun e w' => e = .returned (opV (opndX s.data.toList)) ∧ Below w.heap.size w w' := by
  have KC := str_Cut1 s 114
  have KX := str_CutX s
  have KP := fun W => word_Parse s W hs
  have KL := fun W => asm_isLabel s W hs
  have hB0 := Blk.new w 81 #[.int .i64 0, .int .u32 0, .bool false]
  have hbel0 := (Below.refl _ w).alloc (Nat.le_refl _) (.cells #[.int .i64 0, .int .u32 0, .bool false] 81)
  have hT0 := hT.below hbel0 hT.1
  by_cases hr : s.data.toList.head? = some 114
  · rw [if_pos hr, decide_eq_true hr] at KC
    have hs0 : 0 < s.size := by
      rcases Nat.eq_zero_or_pos s.size with h | h
      · rw [List.eq_nil_of_length_eq_zero (show s.data.toList.length = 0 from h)] at hr
        cases hr
      · exact h
    obtain ⟨d, hd⟩ : ∃ d : ByteArray, bs (s.data.toList.drop 1) = d := ⟨_, rfl⟩
    have hdl : s.data.toList.drop 1 = d.data.toList := by rw [← hd]
    rw [hd] at KC
    have hdz : d.size ≤ 1000000 := by rw [size_len, ← hdl, List.length_drop]; have := size_len s; omega
    have KD := fun W => word_Parse d W hdz
    have HKC := Lib.hid KC
    have e0 : s[0]'hs0 = 114 := by
      rw [List.head?_eq_getElem?, List.getElem?_eq_getElem (show 0 < s.data.toList.length from hs0)] at hr
      exact Option.some.inj hr
    have hcons : ∃ r, s.data.toList = 114 :: r := by
      cases hh : s.data.toList with
      | nil => rw [hh] at hr; cases hr
      | cons x r => rw [hh] at hr; exact ⟨r, by rw [Option.some.inj hr]⟩
    have hPs : parseW s.data.toList = (0, 3) := by
      obtain ⟨r, hh⟩ := hcons
      rw [hh]
      unfold parseW
      rw [if_pos (.inr (by rw [List.all_cons, show isD 114 = false from by decide, Bool.false_and]))]
    have hx2 : ¬ s.data.toList.take 2 = [48, 120] := by
      obtain ⟨r, hh⟩ := hcons
      rw [hh]
      intro e
      cases r with
      | nil => exact absurd (List.cons.inj e).1 (by decide)
      | cons y q => exact absurd (List.cons.inj e).1 (by decide)
    have hch : charX s.data.toList = none := by
      obtain ⟨r, hh⟩ := hcons
      rw [hh]
      unfold charX
      split
      · rename_i a b c e
        rw [if_neg]
        rintro ⟨h1, _⟩
        have := (List.cons.inj e).1
        rw [h1] at this
        exact absurd this (by decide)
      · rfl
    have q0 : (((s[0]'hs0).toNat : Int) == 39) = false := by rw [e0]; decide
    have h0I : (0 : Int) < s.size := by omega
    rw [hPs] at KP
    rw [if_neg hx2, decide_eq_false hx2] at KX
    have HKP := Lib.hid KP
    have HKX := Lib.hid KX
    have hpd := parseW_err d.data.toList
    have hX0 : opndX s.data.toList = if (parseW d.data.toList).2 = 0 ∧ (parseW d.data.toList).1.toNat ≤ 15 then (1, (parseW d.data.toList).1.toNat, false) else if labelB s.data.toList = true then (3, 0, false) else (0, 0, false) := by
      unfold opndX
      rw [hdl]
      by_cases hc : (parseW d.data.toList).2 = 0 ∧ (parseW d.data.toList).1.toNat ≤ 15
      · rw [if_pos ⟨hr, hc⟩, if_pos hc]
      · rw [if_neg (fun e => hc e.2), if_neg hc, hPs, if_neg (by decide), if_neg (by decide), if_neg hx2, hch]
    clear hd hdl hr hcons hPs hx2 hch e0 KC KP KX hdz
    generalize parseW d.data.toList = p at KD hpd hX0
    obtain ⟨x, e⟩ := p
    simp only at KD hpd hX0
    rcases (show s.size = 3 ∨ s.size ≠ 3 by omega) with h3 | h3
    · have q3 : ((s.size : Int) == 3) = true := by rw [h3]; rfl
      clear h3
      rcases hpd with rfl | rfl | rfl
      · have HKD := Lib.hid KD
        by_cases hx : x.toNat ≤ 15
        · have hxI : (x.toNat : Int) ≤ 15 := by omega
          have hX : opndX s.data.toList = (1, x.toNat, false) := by rw [hX0, if_pos ⟨rfl, hx⟩]
          rw [hX]
          clear hX hX0 KD hx KL
          go_enter Tryz.func37, Tryz.ntmps37
          go_wp2_with fail
          refine (HKC.out _).mono ?_
          rintro e w1 ⟨rfl, hw1⟩
          subst w1
          go_wp2_with fail
          refine (HKD.out _).mono ?_
          rintro e w1 ⟨rfl, rfl⟩
          go_wp2_with fail
          refine bodyPost_ret (by simp [results, Tryz.results37, go_sem]; try rfl) rfl ?_
          exact ⟨rfl, (Below.refl _ w).alloc (Nat.le_refl _) _⟩
        · have hxI : ¬ (x.toNat : Int) ≤ 15 := by omega
          have hX : opndX s.data.toList = if labelB s.data.toList = true then (3, 0, false) else (0, 0, false) := by rw [hX0, if_neg (fun e => hx e.2)]
          clear hX0 KD hx
          cases hl : labelB s.data.toList with
          | false =>
            rw [hl] at KL
            have HKL := Lib.hid KL
            rw [hX, hl, if_neg (by decide)]
            clear KL hl hX
            go_enter Tryz.func37, Tryz.ntmps37
            go_wp2_with fail
            refine (HKC.out _).mono ?_
            rintro e w1 ⟨rfl, hw1⟩
            subst w1
            go_wp2_with fail
            refine (HKD.out _).mono ?_
            rintro e w1 ⟨rfl, rfl⟩
            go_wp2_with fail
            refine (HKP.out _).mono ?_
            rintro e w1 ⟨rfl, rfl⟩
            go_wp2_with fail
            refine (HKX.out _).mono ?_
            rintro e w1 ⟨rfl, hw1⟩
            subst w1
            go_wp2_with fail
            refine (HKL.out _).mono ?_
            rintro e w1 ⟨rfl, hw1⟩
            subst w1
            go_wp2_with fail
            refine bodyPost_ret (by simp [results, Tryz.results37, go_sem]; try rfl) rfl ?_
            exact ⟨rfl, (Below.refl _ w).alloc (Nat.le_refl _) _⟩
          | true =>
            rw [hl] at KL
            have HKL := Lib.hid KL
            rw [hX, hl, if_pos rfl]
            clear KL hl hX
            go_enter Tryz.func37, Tryz.ntmps37
            go_wp2_with fail
            refine (HKC.out _).mono ?_
            rintro e w1 ⟨rfl, hw1⟩
            subst w1
            go_wp2_with fail
            refine (HKD.out _).mono ?_
            rintro e w1 ⟨rfl, rfl⟩
            go_wp2_with fail
            refine (HKP.out _).mono ?_
            rintro e w1 ⟨rfl, rfl⟩
            go_wp2_with fail
            refine (HKX.out _).mono ?_
            rintro e w1 ⟨rfl, hw1⟩
            subst w1
            go_wp2_with fail
            refine (HKL.out _).mono ?_
            rintro e w1 ⟨rfl, hw1⟩
            subst w1
            go_wp2_with fail
            refine bodyPost_ret (by simp [results, Tryz.results37, go_sem]; try rfl) rfl ?_
            exact ⟨rfl, (Below.refl _ w).alloc (Nat.le_refl _) _⟩
      · have HKD := Lib.hid KD
        have hX : opndX s.data.toList = if labelB s.data.toList = true then (3, 0, false) else (0, 0, false) := by rw [hX0, if_neg (fun e => absurd e.1 (by decide))]
        clear hX0 KD
        cases hl : labelB s.data.toList with
        | false =>
          rw [hl] at KL
          have HKL := Lib.hid KL
          rw [hX, hl, if_neg (by decide)]
          clear KL hl hX
          go_enter Tryz.func37, Tryz.ntmps37
          go_wp2_with fail
          refine (HKC.out _).mono ?_
          rintro e w1 ⟨rfl, hw1⟩
          subst w1
          go_wp2_with fail
          refine (HKD.out _).mono ?_
          rintro e w1 ⟨rfl, rfl⟩
          go_wp2_with fail
          refine (HKP.out _).mono ?_
          rintro e w1 ⟨rfl, rfl⟩
          go_wp2_with fail
          refine (HKX.out _).mono ?_
          rintro e w1 ⟨rfl, hw1⟩
          subst w1
          go_wp2_with fail
          refine (HKL.out _).mono ?_
          rintro e w1 ⟨rfl, hw1⟩
          subst w1
          go_wp2_with fail
          refine bodyPost_ret (by simp [results, Tryz.results37, go_sem]; try rfl) rfl ?_
          exact ⟨rfl, (Below.refl _ w).alloc (Nat.le_refl _) _⟩
        | true =>
          rw [hl] at KL
          have HKL := Lib.hid KL
          rw [hX, hl, if_pos rfl]
          clear KL hl hX
          go_enter Tryz.func37, Tryz.ntmps37
          go_wp2_with fail
          refine (HKC.out _).mono ?_
          rintro e w1 ⟨rfl, hw1⟩
          subst w1
          go_wp2_with fail
          refine (HKD.out _).mono ?_
          rintro e w1 ⟨rfl, rfl⟩
          go_wp2_with fail
          refine (HKP.out _).mono ?_
          rintro e w1 ⟨rfl, rfl⟩
          go_wp2_with fail
          refine (HKX.out _).mono ?_
          rintro e w1 ⟨rfl, hw1⟩
          subst w1
          go_wp2_with fail
          refine (HKL.out _).mono ?_
          rintro e w1 ⟨rfl, hw1⟩
          subst w1
          go_wp2_with fail
          refine bodyPost_ret (by simp [results, Tryz.results37, go_sem]; try rfl) rfl ?_
          exact ⟨rfl, (Below.refl _ w).alloc (Nat.le_refl _) _⟩
      · have HKD := Lib.hid KD
        have hX : opndX s.data.toList = if labelB s.data.toList = true then (3, 0, false) else (0, 0, false) := by rw [hX0, if_neg (fun e => absurd e.1 (by decide))]
        clear hX0 KD
        cases hl : labelB s.data.toList with
        | false =>
          rw [hl] at KL
          have HKL := Lib.hid KL
          rw [hX, hl, if_neg (by decide)]
          clear KL hl hX
          go_enter Tryz.func37, Tryz.ntmps37
          go_wp2_with fail
          refine (HKC.out _).mono ?_
          rintro e w1 ⟨rfl, hw1⟩
          subst w1
          go_wp2_with fail
          refine (HKD.out _).mono ?_
          rintro e w1 ⟨rfl, rfl⟩
          go_wp2_with fail
          refine (HKP.out _).mono ?_
          rintro e w1 ⟨rfl, rfl⟩
          go_wp2_with fail
          refine (HKX.out _).mono ?_
          rintro e w1 ⟨rfl, hw1⟩
          subst w1
          go_wp2_with fail
          refine (HKL.out _).mono ?_
          rintro e w1 ⟨rfl, hw1⟩
          subst w1
          go_wp2_with fail
          refine bodyPost_ret (by simp [results, Tryz.results37, go_sem]; try rfl) rfl ?_
          exact ⟨rfl, (Below.refl _ w).alloc (Nat.le_refl _) _⟩
        | true =>
          rw [hl] at KL
          have HKL := Lib.hid KL
          rw [hX, hl, if_pos rfl]
          clear KL hl hX
          go_enter Tryz.func37, Tryz.ntmps37
          go_wp2_with fail
          refine (HKC.out _).mono ?_
          rintro e w1 ⟨rfl, hw1⟩
          subst w1
          go_wp2_with fail
          refine (HKD.out _).mono ?_
          rintro e w1 ⟨rfl, rfl⟩
          go_wp2_with fail
          refine (HKP.out _).mono ?_
          rintro e w1 ⟨rfl, rfl⟩
          go_wp2_with fail
          refine (HKX.out _).mono ?_
          rintro e w1 ⟨rfl, hw1⟩
          subst w1
          go_wp2_with fail
          refine (HKL.out _).mono ?_
          rintro e w1 ⟨rfl, hw1⟩
          subst w1
          go_wp2_with fail
          refine bodyPost_ret (by simp [results, Tryz.results37, go_sem]; try rfl) rfl ?_
          exact ⟨rfl, (Below.refl _ w).alloc (Nat.le_refl _) _⟩
    · have q3 : ((s.size : Int) == 3) = false := by rw [beq_eq_false_iff_ne]; omega
      clear h3
      rcases hpd with rfl | rfl | rfl
      · have HKD := Lib.hid KD
        by_cases hx : x.toNat ≤ 15
        · have hxI : (x.toNat : Int) ≤ 15 := by omega
          have hX : opndX s.data.toList = (1, x.toNat, false) := by rw [hX0, if_pos ⟨rfl, hx⟩]
          rw [hX]
          clear hX hX0 KD hx KL
          go_enter Tryz.func37, Tryz.ntmps37
          go_wp2_with fail
          refine (HKC.out _).mono ?_
          rintro e w1 ⟨rfl, hw1⟩
          subst w1
          go_wp2_with fail
          refine (HKD.out _).mono ?_
          rintro e w1 ⟨rfl, rfl⟩
          go_wp2_with fail
          refine bodyPost_ret (by simp [results, Tryz.results37, go_sem]; try rfl) rfl ?_
          exact ⟨rfl, (Below.refl _ w).alloc (Nat.le_refl _) _⟩
        · have hxI : ¬ (x.toNat : Int) ≤ 15 := by omega
          have hX : opndX s.data.toList = if labelB s.data.toList = true then (3, 0, false) else (0, 0, false) := by rw [hX0, if_neg (fun e => hx e.2)]
          clear hX0 KD hx
          cases hl : labelB s.data.toList with
          | false =>
            rw [hl] at KL
            have HKL := Lib.hid KL
            rw [hX, hl, if_neg (by decide)]
            clear KL hl hX
            go_enter Tryz.func37, Tryz.ntmps37
            go_wp2_with fail
            refine (HKC.out _).mono ?_
            rintro e w1 ⟨rfl, hw1⟩
            subst w1
            go_wp2_with fail
            refine (HKD.out _).mono ?_
            rintro e w1 ⟨rfl, rfl⟩
            go_wp2_with fail
            refine (HKP.out _).mono ?_
            rintro e w1 ⟨rfl, rfl⟩
            go_wp2_with fail
            refine (HKX.out _).mono ?_
            rintro e w1 ⟨rfl, hw1⟩
            subst w1
            go_wp2_with fail
            refine (HKL.out _).mono ?_
            rintro e w1 ⟨rfl, hw1⟩
            subst w1
            go_wp2_with fail
            refine bodyPost_ret (by simp [results, Tryz.results37, go_sem]; try rfl) rfl ?_
            exact ⟨rfl, (Below.refl _ w).alloc (Nat.le_refl _) _⟩
          | true =>
            rw [hl] at KL
            have HKL := Lib.hid KL
            rw [hX, hl, if_pos rfl]
            clear KL hl hX
            go_enter Tryz.func37, Tryz.ntmps37
            go_wp2_with fail
            refine (HKC.out _).mono ?_
            rintro e w1 ⟨rfl, hw1⟩
            subst w1
            go_wp2_with fail
            refine (HKD.out _).mono ?_
            rintro e w1 ⟨rfl, rfl⟩
            go_wp2_with fail
            refine (HKP.out _).mono ?_
            rintro e w1 ⟨rfl, rfl⟩
            go_wp2_with fail
            refine (HKX.out _).mono ?_
            rintro e w1 ⟨rfl, hw1⟩
            subst w1
            go_wp2_with fail
            refine (HKL.out _).mono ?_
            rintro e w1 ⟨rfl, hw1⟩
            subst w1
            go_wp2_with fail
            refine bodyPost_ret (by simp [results, Tryz.results37, go_sem]; try rfl) rfl ?_
            exact ⟨rfl, (Below.refl _ w).alloc (Nat.le_refl _) _⟩
      · have HKD := Lib.hid KD
        have hX : opndX s.data.toList = if labelB s.data.toList = true then (3, 0, false) else (0, 0, false) := by rw [hX0, if_neg (fun e => absurd e.1 (by decide))]
        clear hX0 KD
        cases hl : labelB s.data.toList with
        | false =>
          rw [hl] at KL
          have HKL := Lib.hid KL
          rw [hX, hl, if_neg (by decide)]
          clear KL hl hX
          go_enter Tryz.func37, Tryz.ntmps37
          go_wp2_with fail
          refine (HKC.out _).mono ?_
          rintro e w1 ⟨rfl, hw1⟩
          subst w1
          go_wp2_with fail
          refine (HKD.out _).mono ?_
          rintro e w1 ⟨rfl, rfl⟩
          go_wp2_with fail
          refine (HKP.out _).mono ?_
          rintro e w1 ⟨rfl, rfl⟩
          go_wp2_with fail
          refine (HKX.out _).mono ?_
          rintro e w1 ⟨rfl, hw1⟩
          subst w1
          go_wp2_with fail
          refine (HKL.out _).mono ?_
          rintro e w1 ⟨rfl, hw1⟩
          subst w1
          go_wp2_with fail
          refine bodyPost_ret (by simp [results, Tryz.results37, go_sem]; try rfl) rfl ?_
          exact ⟨rfl, (Below.refl _ w).alloc (Nat.le_refl _) _⟩
        | true =>
          rw [hl] at KL
          have HKL := Lib.hid KL
          rw [hX, hl, if_pos rfl]
          clear KL hl hX
          go_enter Tryz.func37, Tryz.ntmps37
          go_wp2_with fail
          refine (HKC.out _).mono ?_
          rintro e w1 ⟨rfl, hw1⟩
          subst w1
          go_wp2_with fail
          refine (HKD.out _).mono ?_
          rintro e w1 ⟨rfl, rfl⟩
          go_wp2_with fail
          refine (HKP.out _).mono ?_
          rintro e w1 ⟨rfl, rfl⟩
          go_wp2_with fail
          refine (HKX.out _).mono ?_
          rintro e w1 ⟨rfl, hw1⟩
          subst w1
          go_wp2_with fail
          refine (HKL.out _).mono ?_
          rintro e w1 ⟨rfl, hw1⟩
          subst w1
          go_wp2_with fail
          refine bodyPost_ret (by simp [results, Tryz.results37, go_sem]; try rfl) rfl ?_
          exact ⟨rfl, (Below.refl _ w).alloc (Nat.le_refl _) _⟩
      · have HKD := Lib.hid KD
        have hX : opndX s.data.toList = if labelB s.data.toList = true then (3, 0, false) else (0, 0, false) := by rw [hX0, if_neg (fun e => absurd e.1 (by decide))]
        clear hX0 KD
        cases hl : labelB s.data.toList with
        | false =>
          rw [hl] at KL
          have HKL := Lib.hid KL
          rw [hX, hl, if_neg (by decide)]
          clear KL hl hX
          go_enter Tryz.func37, Tryz.ntmps37
          go_wp2_with fail
          refine (HKC.out _).mono ?_
          rintro e w1 ⟨rfl, hw1⟩
          subst w1
          go_wp2_with fail
          refine (HKD.out _).mono ?_
          rintro e w1 ⟨rfl, rfl⟩
          go_wp2_with fail
          refine (HKP.out _).mono ?_
          rintro e w1 ⟨rfl, rfl⟩
          go_wp2_with fail
          refine (HKX.out _).mono ?_
          rintro e w1 ⟨rfl, hw1⟩
          subst w1
          go_wp2_with fail
          refine (HKL.out _).mono ?_
          rintro e w1 ⟨rfl, hw1⟩
          subst w1
          go_wp2_with fail
          refine bodyPost_ret (by simp [results, Tryz.results37, go_sem]; try rfl) rfl ?_
          exact ⟨rfl, (Below.refl _ w).alloc (Nat.le_refl _) _⟩
        | true =>
          rw [hl] at KL
          have HKL := Lib.hid KL
          rw [hX, hl, if_pos rfl]
          clear KL hl hX
          go_enter Tryz.func37, Tryz.ntmps37
          go_wp2_with fail
          refine (HKC.out _).mono ?_
          rintro e w1 ⟨rfl, hw1⟩
          subst w1
          go_wp2_with fail
          refine (HKD.out _).mono ?_
          rintro e w1 ⟨rfl, rfl⟩
          go_wp2_with fail
          refine (HKP.out _).mono ?_
          rintro e w1 ⟨rfl, rfl⟩
          go_wp2_with fail
          refine (HKX.out _).mono ?_
          rintro e w1 ⟨rfl, hw1⟩
          subst w1
          go_wp2_with fail
          refine (HKL.out _).mono ?_
          rintro e w1 ⟨rfl, hw1⟩
          subst w1
          go_wp2_with fail
          refine bodyPost_ret (by simp [results, Tryz.results37, go_sem]; try rfl) rfl ?_
          exact ⟨rfl, (Below.refl _ w).alloc (Nat.le_refl _) _⟩
  · rw [if_neg hr, decide_eq_false hr] at KC
    have HKC := Lib.hid KC
    have hpe := parseW_err s.data.toList
    have hX0 : opndX s.data.toList = if (parseW s.data.toList).2 = 0 then (2, (parseW s.data.toList).1.toNat, false) else if (parseW s.data.toList).2 = 2 then (2, 0, true) else if s.data.toList.take 2 = [48, 120] then hexX (s.data.toList.drop 2) else
        match charX s.data.toList with
        | some b => (2, b.toNat, false)
        | none => if labelB s.data.toList = true then (3, 0, false) else (0, 0, false) := by
      unfold opndX
      rw [if_neg (fun e => hr e.1)]
      rfl
    clear hr KC
    generalize parseW s.data.toList = p at KP hpe hX0
    obtain ⟨x, e⟩ := p
    simp only at KP hpe hX0
    rcases hpe with rfl | rfl | rfl
    · have HKP := Lib.hid KP
      rw [hX0, if_pos rfl]
      clear KP KL KX hX0
      go_enter Tryz.func37, Tryz.ntmps37
      go_wp2_with fail
      refine (HKC.out _).mono ?_
      rintro e w1 ⟨rfl, hw1⟩
      subst w1
      go_wp2_with fail
      refine (HKP.out _).mono ?_
      rintro e w1 ⟨rfl, rfl⟩
      go_wp2_with fail
      refine bodyPost_ret (by simp [results, Tryz.results37, go_sem]; try rfl) rfl ?_
      exact ⟨rfl, (Below.refl _ w).alloc (Nat.le_refl _) _⟩
    · have HKP := Lib.hid KP
      rw [hX0, if_neg (by decide), if_pos rfl]
      clear KP KL KX hX0
      go_enter Tryz.func37, Tryz.ntmps37
      go_wp2_with fail
      refine (HKC.out _).mono ?_
      rintro e w1 ⟨rfl, hw1⟩
      subst w1
      go_wp2_with fail
      refine (HKP.out _).mono ?_
      rintro e w1 ⟨rfl, rfl⟩
      go_wp2_with fail
      refine bodyPost_ret (by simp [results, Tryz.results37, go_sem]; try rfl) rfl ?_
      exact ⟨rfl, (Below.refl _ w).alloc (Nat.le_refl _) _⟩
    · have HKP := Lib.hid KP
      rw [if_neg (by decide), if_neg (by decide)] at hX0
      clear KP
      by_cases h2 : s.data.toList.take 2 = [48, 120]
      · rw [if_pos h2, decide_eq_true h2] at KX
        rw [if_pos h2] at hX0
        obtain ⟨d, hd⟩ : ∃ d : ByteArray, bs (s.data.toList.drop 2) = d := ⟨_, rfl⟩
        have hdl : s.data.toList.drop 2 = d.data.toList := by rw [← hd]
        rw [hd] at KX
        have hdz : d.size ≤ 1000000 := by rw [size_len, ← hdl, List.length_drop]; have := size_len s; omega
        have KH := fun W (h : Small W) => asm_hex d W hdz h
        rw [hX0, hdl]
        generalize hexX d.data.toList = R at KH ⊢
        obtain ⟨rk, rn, rg⟩ := R
        unfold opV at KH
        have HKX := Lib.hid KX
        have HKH := Lib.hid KH
        clear h2 hd hdl hdz KX KH KL hX0
        go_enter Tryz.func37, Tryz.ntmps37
        go_wp2_with fail
        refine (HKC.out _).mono ?_
        rintro e w1 ⟨rfl, hw1⟩
        subst w1
        go_wp2_with fail
        refine (HKP.out _).mono ?_
        rintro e w1 ⟨rfl, rfl⟩
        go_wp2_with fail
        refine (HKX.out _).mono ?_
        rintro e w1 ⟨rfl, hw1⟩
        subst w1
        go_wp2_with fail
        refine (HKH.out _ hT0).mono ?_
        rintro e w2 ⟨rfl, b2⟩
        have B2 := hB0.below b2 hB0.lt
        have c2 := hbel0.trans (b2.mono hbel0.size)
        have r0 := B2.cell 0
        have r1 := B2.cell 1
        have r2 := B2.cell 2
        have f0 := B2.frozen 0
        have f1 := B2.frozen 1
        have f2 := B2.frozen 2
        have HB2 := Lib.hid B2
        clear b2 B2
        go_wp2_with fail
        obtain ⟨k0, k1, k2, kb⟩ := three_set HB2.out c2 (.int .i64 rk) (.int .u32 (rn : Nat)) (.bool rg)
        refine bodyPost_ret (by simp [results, Tryz.results37, go_sem, k0, k1, k2]; try rfl) rfl ?_
        exact ⟨rfl, kb⟩
      · rw [if_neg h2, decide_eq_false h2] at KX
        rw [if_neg h2] at hX0
        have HKX := Lib.hid KX
        clear h2 KX
        by_cases h3 : s.size = 3
        · have q3 : ((s.size : Int) == 3) = true := by rw [h3]; rfl
          have hch := char_three h3
          have i0 : (0 : Int) < s.size := by omega
          have i1 : (1 : Int) < s.size := by omega
          have i2 : (2 : Int) < s.size := by omega
          have j0 : 0 < s.size := by omega
          have j1 : 1 < s.size := by omega
          have j2 : 2 < s.size := by omega
          obtain ⟨a, ha⟩ : ∃ a, s[0]'j0 = a := ⟨_, rfl⟩
          obtain ⟨b, hb⟩ : ∃ a, s[1]'j1 = a := ⟨_, rfl⟩
          obtain ⟨c, hc⟩ : ∃ a, s[2]'j2 = a := ⟨_, rfl⟩
          rw [ha, hb, hc] at hch
          have hcx : charX s.data.toList = if a = 39 ∧ c = 39 ∧ 33 ≤ b.toNat ∧ b.toNat ≤ 126 ∧ b ≠ 39 ∧ b ≠ 35 ∧ b ≠ 44 ∧ b ≠ 58 then some b else none := by rw [hch]; rfl
          clear hch h3
          by_cases ca : a = 39
          · have qa : ((a.toNat : Int) == 39) = true := beq_int ca
            by_cases cc : c = 39
            · have qc : ((c.toNat : Int) == 39) = true := beq_int cc
              by_cases c33 : 33 ≤ b.toNat
              · have q33 : (33 : Int) ≤ b.toNat := by omega
                by_cases c126 : b.toNat ≤ 126
                · have q126 : (b.toNat : Int) ≤ 126 := by omega
                  have KR := fun W => strings_ContainsRune_ascii ⟨#[39, 35, 44, 58]⟩ (b.toNat : Int) W (by omega) (by omega)
                  have hback : ((b.toNat : Int)).toNat.toUInt8 = b := by simp
                  have hcon := Lib.contains_iff_indexByte (⟨#[39, 35, 44, 58]⟩ : ByteArray).data.toList b
                  rw [has_char] at hcon
                  rw [hback, ← hcon] at KR
                  by_cases cb : b = 39 ∨ b = 35 ∨ b = 44 ∨ b = 58
                  · rw [decide_eq_true cb] at KR
                    have HKR := Lib.hid KR
                    clear hback hcon KR
                    have hX : opndX s.data.toList = if labelB s.data.toList = true then (3, 0, false) else (0, 0, false) := by
                      rw [hX0, hcx, if_neg]
                      rintro ⟨_, _, _, _, n1, n2, n3, n4⟩
                      rcases cb with h | h | h | h
                      · exact n1 h
                      · exact n2 h
                      · exact n3 h
                      · exact n4 h
                    clear hX0 hcx cb ca cc c33 c126
                    cases hl : labelB s.data.toList with
                    | false =>
                      rw [hl] at KL
                      have HKL := Lib.hid KL
                      rw [hX, hl, if_neg (by decide)]
                      clear KL hl hX
                      go_enter Tryz.func37, Tryz.ntmps37
                      go_wp2_with fail
                      refine (HKC.out _).mono ?_
                      rintro e w1 ⟨rfl, hw1⟩
                      subst w1
                      go_wp2_with fail
                      refine (HKP.out _).mono ?_
                      rintro e w1 ⟨rfl, rfl⟩
                      go_wp2_with fail
                      refine (HKX.out _).mono ?_
                      rintro e w1 ⟨rfl, hw1⟩
                      subst w1
                      go_wp2_with fail
                      refine (HKR.out _).mono ?_
                      rintro e w1 ⟨rfl, hw1⟩
                      subst w1
                      go_wp2_with fail
                      refine (HKL.out _).mono ?_
                      rintro e w1 ⟨rfl, hw1⟩
                      subst w1
                      go_wp2_with fail
                      refine bodyPost_ret (by simp [results, Tryz.results37, go_sem]; try rfl) rfl ?_
                      exact ⟨rfl, (Below.refl _ w).alloc (Nat.le_refl _) _⟩
                    | true =>
                      rw [hl] at KL
                      have HKL := Lib.hid KL
                      rw [hX, hl, if_pos rfl]
                      clear KL hl hX
                      go_enter Tryz.func37, Tryz.ntmps37
                      go_wp2_with fail
                      refine (HKC.out _).mono ?_
                      rintro e w1 ⟨rfl, hw1⟩
                      subst w1
                      go_wp2_with fail
                      refine (HKP.out _).mono ?_
                      rintro e w1 ⟨rfl, rfl⟩
                      go_wp2_with fail
                      refine (HKX.out _).mono ?_
                      rintro e w1 ⟨rfl, hw1⟩
                      subst w1
                      go_wp2_with fail
                      refine (HKR.out _).mono ?_
                      rintro e w1 ⟨rfl, hw1⟩
                      subst w1
                      go_wp2_with fail
                      refine (HKL.out _).mono ?_
                      rintro e w1 ⟨rfl, hw1⟩
                      subst w1
                      go_wp2_with fail
                      refine bodyPost_ret (by simp [results, Tryz.results37, go_sem]; try rfl) rfl ?_
                      exact ⟨rfl, (Below.refl _ w).alloc (Nat.le_refl _) _⟩
                  · rw [decide_eq_false cb] at KR
                    have HKR := Lib.hid KR
                    have hX : opndX s.data.toList = (2, b.toNat, false) := by rw [hX0, hcx, if_pos ⟨ca, cc, c33, c126, fun h => cb (.inl h), fun h => cb (.inr (.inl h)), fun h => cb (.inr (.inr (.inl h))), fun h => cb (.inr (.inr (.inr h)))⟩]
                    rw [hX]
                    clear hback hcon KR KL hX hX0 hcx cb ca cc c33 c126
                    go_enter Tryz.func37, Tryz.ntmps37
                    go_wp2_with fail
                    refine (HKC.out _).mono ?_
                    rintro e w1 ⟨rfl, hw1⟩
                    subst w1
                    go_wp2_with fail
                    refine (HKP.out _).mono ?_
                    rintro e w1 ⟨rfl, rfl⟩
                    go_wp2_with fail
                    refine (HKX.out _).mono ?_
                    rintro e w1 ⟨rfl, hw1⟩
                    subst w1
                    go_wp2_with fail
                    refine (HKR.out _).mono ?_
                    rintro e w1 ⟨rfl, hw1⟩
                    subst w1
                    go_wp2_with fail
                    refine bodyPost_ret (by simp [results, Tryz.results37, go_sem]; try rfl) rfl ?_
                    exact ⟨rfl, (Below.refl _ w).alloc (Nat.le_refl _) _⟩
                · have q126 : ¬ (b.toNat : Int) ≤ 126 := by omega
                  clear ca cc
                  have hX : opndX s.data.toList = if labelB s.data.toList = true then (3, 0, false) else (0, 0, false) := by rw [hX0, hcx, if_neg (fun e => c126 e.2.2.2.1)]
                  clear hX0 hcx
                  cases hl : labelB s.data.toList with
                  | false =>
                    rw [hl] at KL
                    have HKL := Lib.hid KL
                    rw [hX, hl, if_neg (by decide)]
                    clear KL hl hX
                    go_enter Tryz.func37, Tryz.ntmps37
                    go_wp2_with fail
                    refine (HKC.out _).mono ?_
                    rintro e w1 ⟨rfl, hw1⟩
                    subst w1
                    go_wp2_with fail
                    refine (HKP.out _).mono ?_
                    rintro e w1 ⟨rfl, rfl⟩
                    go_wp2_with fail
                    refine (HKX.out _).mono ?_
                    rintro e w1 ⟨rfl, hw1⟩
                    subst w1
                    go_wp2_with fail
                    refine (HKL.out _).mono ?_
                    rintro e w1 ⟨rfl, hw1⟩
                    subst w1
                    go_wp2_with fail
                    refine bodyPost_ret (by simp [results, Tryz.results37, go_sem]; try rfl) rfl ?_
                    exact ⟨rfl, (Below.refl _ w).alloc (Nat.le_refl _) _⟩
                  | true =>
                    rw [hl] at KL
                    have HKL := Lib.hid KL
                    rw [hX, hl, if_pos rfl]
                    clear KL hl hX
                    go_enter Tryz.func37, Tryz.ntmps37
                    go_wp2_with fail
                    refine (HKC.out _).mono ?_
                    rintro e w1 ⟨rfl, hw1⟩
                    subst w1
                    go_wp2_with fail
                    refine (HKP.out _).mono ?_
                    rintro e w1 ⟨rfl, rfl⟩
                    go_wp2_with fail
                    refine (HKX.out _).mono ?_
                    rintro e w1 ⟨rfl, hw1⟩
                    subst w1
                    go_wp2_with fail
                    refine (HKL.out _).mono ?_
                    rintro e w1 ⟨rfl, hw1⟩
                    subst w1
                    go_wp2_with fail
                    refine bodyPost_ret (by simp [results, Tryz.results37, go_sem]; try rfl) rfl ?_
                    exact ⟨rfl, (Below.refl _ w).alloc (Nat.le_refl _) _⟩
              · have q33 : ¬ (33 : Int) ≤ b.toNat := by omega
                clear ca cc
                have hX : opndX s.data.toList = if labelB s.data.toList = true then (3, 0, false) else (0, 0, false) := by rw [hX0, hcx, if_neg (fun e => c33 e.2.2.1)]
                clear hX0 hcx
                cases hl : labelB s.data.toList with
                | false =>
                  rw [hl] at KL
                  have HKL := Lib.hid KL
                  rw [hX, hl, if_neg (by decide)]
                  clear KL hl hX
                  go_enter Tryz.func37, Tryz.ntmps37
                  go_wp2_with fail
                  refine (HKC.out _).mono ?_
                  rintro e w1 ⟨rfl, hw1⟩
                  subst w1
                  go_wp2_with fail
                  refine (HKP.out _).mono ?_
                  rintro e w1 ⟨rfl, rfl⟩
                  go_wp2_with fail
                  refine (HKX.out _).mono ?_
                  rintro e w1 ⟨rfl, hw1⟩
                  subst w1
                  go_wp2_with fail
                  refine (HKL.out _).mono ?_
                  rintro e w1 ⟨rfl, hw1⟩
                  subst w1
                  go_wp2_with fail
                  refine bodyPost_ret (by simp [results, Tryz.results37, go_sem]; try rfl) rfl ?_
                  exact ⟨rfl, (Below.refl _ w).alloc (Nat.le_refl _) _⟩
                | true =>
                  rw [hl] at KL
                  have HKL := Lib.hid KL
                  rw [hX, hl, if_pos rfl]
                  clear KL hl hX
                  go_enter Tryz.func37, Tryz.ntmps37
                  go_wp2_with fail
                  refine (HKC.out _).mono ?_
                  rintro e w1 ⟨rfl, hw1⟩
                  subst w1
                  go_wp2_with fail
                  refine (HKP.out _).mono ?_
                  rintro e w1 ⟨rfl, rfl⟩
                  go_wp2_with fail
                  refine (HKX.out _).mono ?_
                  rintro e w1 ⟨rfl, hw1⟩
                  subst w1
                  go_wp2_with fail
                  refine (HKL.out _).mono ?_
                  rintro e w1 ⟨rfl, hw1⟩
                  subst w1
                  go_wp2_with fail
                  refine bodyPost_ret (by simp [results, Tryz.results37, go_sem]; try rfl) rfl ?_
                  exact ⟨rfl, (Below.refl _ w).alloc (Nat.le_refl _) _⟩
            · have qc : ((c.toNat : Int) == 39) = false := bne_int cc
              clear ca
              have hX : opndX s.data.toList = if labelB s.data.toList = true then (3, 0, false) else (0, 0, false) := by rw [hX0, hcx, if_neg (fun e => cc e.2.1)]
              clear hX0 hcx
              cases hl : labelB s.data.toList with
              | false =>
                rw [hl] at KL
                have HKL := Lib.hid KL
                rw [hX, hl, if_neg (by decide)]
                clear KL hl hX
                go_enter Tryz.func37, Tryz.ntmps37
                go_wp2_with fail
                refine (HKC.out _).mono ?_
                rintro e w1 ⟨rfl, hw1⟩
                subst w1
                go_wp2_with fail
                refine (HKP.out _).mono ?_
                rintro e w1 ⟨rfl, rfl⟩
                go_wp2_with fail
                refine (HKX.out _).mono ?_
                rintro e w1 ⟨rfl, hw1⟩
                subst w1
                go_wp2_with fail
                refine (HKL.out _).mono ?_
                rintro e w1 ⟨rfl, hw1⟩
                subst w1
                go_wp2_with fail
                refine bodyPost_ret (by simp [results, Tryz.results37, go_sem]; try rfl) rfl ?_
                exact ⟨rfl, (Below.refl _ w).alloc (Nat.le_refl _) _⟩
              | true =>
                rw [hl] at KL
                have HKL := Lib.hid KL
                rw [hX, hl, if_pos rfl]
                clear KL hl hX
                go_enter Tryz.func37, Tryz.ntmps37
                go_wp2_with fail
                refine (HKC.out _).mono ?_
                rintro e w1 ⟨rfl, hw1⟩
                subst w1
                go_wp2_with fail
                refine (HKP.out _).mono ?_
                rintro e w1 ⟨rfl, rfl⟩
                go_wp2_with fail
                refine (HKX.out _).mono ?_
                rintro e w1 ⟨rfl, hw1⟩
                subst w1
                go_wp2_with fail
                refine (HKL.out _).mono ?_
                rintro e w1 ⟨rfl, hw1⟩
                subst w1
                go_wp2_with fail
                refine bodyPost_ret (by simp [results, Tryz.results37, go_sem]; try rfl) rfl ?_
                exact ⟨rfl, (Below.refl _ w).alloc (Nat.le_refl _) _⟩
          · have qa : ((a.toNat : Int) == 39) = false := bne_int ca
            skip
            have hX : opndX s.data.toList = if labelB s.data.toList = true then (3, 0, false) else (0, 0, false) := by rw [hX0, hcx, if_neg (fun e => ca e.1)]
            clear hX0 hcx
            cases hl : labelB s.data.toList with
            | false =>
              rw [hl] at KL
              have HKL := Lib.hid KL
              rw [hX, hl, if_neg (by decide)]
              clear KL hl hX
              go_enter Tryz.func37, Tryz.ntmps37
              go_wp2_with fail
              refine (HKC.out _).mono ?_
              rintro e w1 ⟨rfl, hw1⟩
              subst w1
              go_wp2_with fail
              refine (HKP.out _).mono ?_
              rintro e w1 ⟨rfl, rfl⟩
              go_wp2_with fail
              refine (HKX.out _).mono ?_
              rintro e w1 ⟨rfl, hw1⟩
              subst w1
              go_wp2_with fail
              refine (HKL.out _).mono ?_
              rintro e w1 ⟨rfl, hw1⟩
              subst w1
              go_wp2_with fail
              refine bodyPost_ret (by simp [results, Tryz.results37, go_sem]; try rfl) rfl ?_
              exact ⟨rfl, (Below.refl _ w).alloc (Nat.le_refl _) _⟩
            | true =>
              rw [hl] at KL
              have HKL := Lib.hid KL
              rw [hX, hl, if_pos rfl]
              clear KL hl hX
              go_enter Tryz.func37, Tryz.ntmps37
              go_wp2_with fail
              refine (HKC.out _).mono ?_
              rintro e w1 ⟨rfl, hw1⟩
              subst w1
              go_wp2_with fail
              refine (HKP.out _).mono ?_
              rintro e w1 ⟨rfl, rfl⟩
              go_wp2_with fail
              refine (HKX.out _).mono ?_
              rintro e w1 ⟨rfl, hw1⟩
              subst w1
              go_wp2_with fail
              refine (HKL.out _).mono ?_
              rintro e w1 ⟨rfl, hw1⟩
              subst w1
              go_wp2_with fail
              refine bodyPost_ret (by simp [results, Tryz.results37, go_sem]; try rfl) rfl ?_
              exact ⟨rfl, (Below.refl _ w).alloc (Nat.le_refl _) _⟩
        · have q3 : ((s.size : Int) == 3) = false := by rw [beq_eq_false_iff_ne]; omega
          have hX : opndX s.data.toList = if labelB s.data.toList = true then (3, 0, false) else (0, 0, false) := by rw [hX0, char_not h3]
          clear hX0 h3
          cases hl : labelB s.data.toList with
          | false =>
            rw [hl] at KL
            have HKL := Lib.hid KL
            rw [hX, hl, if_neg (by decide)]
            clear KL hl hX
            go_enter Tryz.func37, Tryz.ntmps37
            go_wp2_with fail
            refine (HKC.out _).mono ?_
            rintro e w1 ⟨rfl, hw1⟩
            subst w1
            go_wp2_with fail
            refine (HKP.out _).mono ?_
            rintro e w1 ⟨rfl, rfl⟩
            go_wp2_with fail
            refine (HKX.out _).mono ?_
            rintro e w1 ⟨rfl, hw1⟩
            subst w1
            go_wp2_with fail
            refine (HKL.out _).mono ?_
            rintro e w1 ⟨rfl, hw1⟩
            subst w1
            go_wp2_with fail
            refine bodyPost_ret (by simp [results, Tryz.results37, go_sem]; try rfl) rfl ?_
            exact ⟨rfl, (Below.refl _ w).alloc (Nat.le_refl _) _⟩
          | true =>
            rw [hl] at KL
            have HKL := Lib.hid KL
            rw [hX, hl, if_pos rfl]
            clear KL hl hX
            go_enter Tryz.func37, Tryz.ntmps37
            go_wp2_with fail
            refine (HKC.out _).mono ?_
            rintro e w1 ⟨rfl, hw1⟩
            subst w1
            go_wp2_with fail
            refine (HKP.out _).mono ?_
            rintro e w1 ⟨rfl, rfl⟩
            go_wp2_with fail
            refine (HKX.out _).mono ?_
            rintro e w1 ⟨rfl, hw1⟩
            subst w1
            go_wp2_with fail
            refine (HKL.out _).mono ?_
            rintro e w1 ⟨rfl, hw1⟩
            subst w1
            go_wp2_with fail
            refine bodyPost_ret (by simp [results, Tryz.results37, go_sem]; try rfl) rfl ?_
            exact ⟨rfl, (Below.refl _ w).alloc (Nat.le_refl _) _⟩
end Go.Proofs.YtknonabeagbjeaaGreatDoor
