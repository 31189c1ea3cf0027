/- The assembler's calls of package strings, in this proof's own words. -/
/- strings.IndexAny at blanks, whatever bytes the text has: its short road walked here. -/
/- strings.IndexAny at blanks, whatever bytes the text has; walked. -/
/- Layer 12: letter, isLabel, isWord; walked. -/
import Derived.Lib.CountLaws
import Derived.Lib.IndexBytes
import Derived.Laws.RangeAny
import Derived.Deep.LoopGhost
import Derived.Lib.OthersKept
import Derived.Test.YtknonabeagbjeaaGreatDoorShA
import Derived.Test.YtknonabeagbjeaaGreatDoorBp
import Derived.Test.YtknonabeagbjeaaGreatDoorWrQ
namespace Go.Proofs.YtknonabeagbjeaaGreatDoor
open Go.RowKit

/-- A list of bytes as a string. -/
abbrev bs (l : List UInt8) : ByteArray := ⟨l.toArray⟩
def sv (l : List UInt8) : Value := .string (bs l)
theorem bs_eq (s : ByteArray) : s = bs s.data.toList := ba_eq rfl
theorem bs_list (l : List UInt8) : (bs l).data.toList = l := rfl
theorem bs_size (l : List UInt8) : (bs l).size = l.length := rfl
theorem size_len (t : ByteArray) : t.size = t.data.toList.length := rfl

theorem findL_le (c : UInt8) : ∀ l, findL c l ≤ l.length
  | [] => Nat.le_refl _
  | x :: r => by
    have := findL_le c r
    unfold findL
    split <;> simp <;> omega
theorem blankAt_le : ∀ l, blankAt l ≤ l.length
  | [] => Nat.le_refl _
  | x :: r => by
    have := blankAt_le r
    unfold blankAt
    split <;> simp <;> omega
theorem index_find (c : UInt8) : ∀ l, Lib.index l [c] = if findL c l < l.length then (findL c l : Int) else -1
  | [] => rfl
  | x :: r => by
    have ih := index_find c r
    have hl := findL_le c r
    rw [Lib.index_one] at ih ⊢
    unfold Lib.indexByte findL
    by_cases h : x = c
    · subst h
      rw [if_pos (beq_self_eq_true x), if_pos rfl, if_pos (by simp)]
      rfl
    · rw [if_neg (by simpa using h), if_neg h, ih]
      by_cases h2 : findL c r < r.length
      · rw [if_pos h2, if_neg (by simp), if_pos (by simp; omega)]
        omega
      · rw [if_neg h2, if_pos (by decide), if_neg (by simp; omega)]
theorem cut_find (c : UInt8) (l : List UInt8) : Lib.cut l [c] = if findL c l < l.length then (l.take (findL c l), l.drop (findL c l + 1), true) else (l, [], false) := by
  unfold Lib.cut
  rw [index_find]
  by_cases h : findL c l < l.length
  · rw [if_pos h, if_pos h, if_pos (by omega), Int.toNat_natCast]
    rfl
  · rw [if_neg h, if_neg h, if_neg (by decide)]
theorem blank_has (x : UInt8) : [(32 : UInt8), 9].contains x = blankB x := by
  unfold blankB
  simp [List.contains, List.elem]
  cases h : x == 32 <;> cases h2 : x == 9 <;> rfl
theorem trimS_blank (l : List UInt8) : Lib.trimS l [32, 9] = trimP l := by
  unfold Lib.trimS Lib.trimLeftS Lib.trimRightS trimP trimR
  rw [show (fun x => [(32 : UInt8), 9].contains x) = blankB from funext blank_has]
theorem indexAny_blank : ∀ l, Lib.indexAny l [32, 9] = if blankAt l < l.length then (blankAt l : Int) else -1
  | [] => rfl
  | x :: r => by
    have ih := indexAny_blank r
    have hl := blankAt_le r
    unfold Lib.indexAny blankAt
    rw [blank_has]
    cases h : blankB x with
    | true => rw [if_pos rfl, if_pos rfl, if_pos (by simp)]; rfl
    | false =>
      simp only [Bool.false_eq_true, if_false]
      rw [ih]
      by_cases h2 : blankAt r < r.length
      · rw [if_pos h2, if_neg (by simp), if_pos (by simp; omega)]
        omega
      · rw [if_neg h2, if_pos (by decide), if_neg (by simp; omega)]
theorem count_cons (c : UInt8) (l : List UInt8) : Lib.count l [c] = if findL c l < l.length then 1 + Lib.count (l.drop (findL c l + 1)) [c] else 0 := by
  by_cases h : findL c l < l.length
  · rw [if_pos h]
    exact Lib.count_hit (by simp) (by rw [index_find, if_pos h])
  · rw [if_neg h]
    exact Lib.count_miss (by rw [index_find, if_neg h])
theorem splitK_split (c : UInt8) : ∀ (f k : Nat) (l : List UInt8), l.length ≤ f → k = Lib.count l [c] → Lib.splitK [c] 0 k l = splitN c f l ∧ (splitN c f l).length = k + 1
  | 0, k, l, hf, hk => by
    have e := List.eq_nil_of_length_eq_zero (Nat.le_zero.1 hf)
    subst e
    rw [count_cons, if_neg (by simp)] at hk
    subst hk
    exact ⟨rfl, rfl⟩
  | f + 1, k, l, hf, hk => by
    rw [count_cons] at hk
    have hl := findL_le c l
    by_cases h : findL c l < l.length
    · rw [if_pos h] at hk
      have hd : (l.drop (findL c l + 1)).length ≤ f := by rw [List.length_drop]; omega
      obtain ⟨j, rfl⟩ : ∃ j, k = j + 1 := ⟨k - 1, by omega⟩
      obtain ⟨i1, i2⟩ := splitK_split c f j (l.drop (findL c l + 1)) hd (by omega)
      have e : splitN c (f + 1) l = l.take (findL c l) :: splitN c f (l.drop (findL c l + 1)) := by rw [splitN, if_neg (by omega)]
      rw [e]
      refine ⟨?_, by simp; omega⟩
      unfold Lib.splitK
      rw [index_find, if_pos h, if_neg (by simp), Int.toNat_natCast, ← i1]
      rfl
    · rw [if_neg h] at hk
      subst hk
      have e : splitN c (f + 1) l = [l] := by rw [splitN, if_pos (by omega)]
      rw [e]
      exact ⟨rfl, rfl⟩
theorem splitB_split (c : UInt8) (s : ByteArray) : (Lib.splitB ⟨#[c]⟩ 0 (Lib.countB s ⟨#[c]⟩) s).map Value.string = (splitP c s.data.toList).map sv ∧ Lib.countB s ⟨#[c]⟩ + 1 = (splitP c s.data.toList).length := by
  obtain ⟨h1, h2⟩ := splitK_split c s.data.toList.length _ s.data.toList (Nat.le_refl _) rfl
  refine ⟨?_, h2.symm⟩
  unfold splitP
  rw [← h1]
  have h3 := Lib.splitB_data ⟨#[c]⟩ 0 (Lib.countB s ⟨#[c]⟩) s
  show _ = (Lib.splitK (⟨#[c]⟩ : ByteArray).data.toList 0 (Lib.countB s ⟨#[c]⟩) s.data.toList).map sv
  rw [← h3, List.map_map]
  apply List.map_congr_left
  intro x _
  show Value.string x = Value.string (bs x.data.toList)
  rw [← bs_eq]

/-- The library's variable, wherever it stands. -/
def Mx (w : World) : Prop := ∃ m, w.cell? ⟨0, 0, none⟩ = some (.int .i64 m)
theorem Mx.lt {w : World} (h : Mx w) : 0 < w.heap.size := by
  obtain ⟨m, hm⟩ := h
  cases hh : w.heap[0]? with
  | none => simp [World.cell?, hh] at hm
  | some o => exact (Array.getElem?_eq_some_iff.1 hh).1
theorem Mx.below {w w' : World} (h : Mx w) (hb : Below w.heap.size w w') : Mx w' := by
  have hl := h.lt
  obtain ⟨m, hm⟩ := h
  exact ⟨m, (hb.cell (p := ⟨0, 0, none⟩) hl).trans hm⟩
theorem str_Cut (s : ByteArray) (c : UInt8) (w : World) (hs : s.size ≤ 1000000) (hm : Mx w) :
    Calls Tryz.prog 32 #[.string s, .string ⟨#[c]⟩] w fun e w' => e = .returned (.tuple #[.string (if findL c s.data.toList < s.size then bs (s.data.toList.take (findL c s.data.toList)) else s), .string (if findL c s.data.toList < s.size then bs (s.data.toList.drop (findL c s.data.toList + 1)) else ⟨#[]⟩), .bool (decide (findL c s.data.toList < s.size))]) ∧ Below w.heap.size w w' := by
  obtain ⟨m, hm⟩ := hm
  refine (strings_Cut s ⟨#[c]⟩ m w (by omega) hm).mono ?_
  rintro e w' ⟨rfl, n, rfl⟩
  refine ⟨?_, ⟨rfl, rfl, rfl, Nat.le_refl _, fun _ _ => rfl⟩⟩
  rw [show (⟨#[c]⟩ : ByteArray).data.toList = [c] from rfl, cut_find]
  by_cases h : findL c s.data.toList < s.size
  · have h' : findL c s.data.toList < s.data.toList.length := h
    rw [if_pos h', if_pos h, if_pos h, decide_eq_true h]
  · have h' : ¬ findL c s.data.toList < s.data.toList.length := h
    rw [if_neg h', if_neg h, if_neg h, decide_eq_false h]
theorem str_Trim (s : ByteArray) (w : World) (hs : s.size ≤ 1000000) :
    Calls Tryz.prog 33 #[.string s, .string ⟨#[32, 9]⟩] w fun e w' => e = .returned (.string (bs (trimP s.data.toList))) ∧ Below w.heap.size w w' := by
  refine (strings_Trim_laid s ⟨#[32, 9]⟩ w (by omega) (by decide) (ascii_of_all (by decide))).mono ?_
  rintro e w' ⟨rfl, hb⟩
  refine ⟨?_, hb⟩
  rw [show (⟨#[32, 9]⟩ : ByteArray).data.toList = [32, 9] from rfl, trimS_blank]
theorem str_Split (s : ByteArray) (c : UInt8) (w : World) (hs : s.size ≤ 1000000) (hm : Mx w) :
    Calls Tryz.prog 8 #[.string s, .string ⟨#[c]⟩] w fun e w' => e = .returned (.slice (some ⟨w.heap.size, 0, none⟩) (splitP c s.data.toList).length (splitP c s.data.toList).length) ∧ w' = w.alloc (.cells ((splitP c s.data.toList).map sv).toArray 9) := by
  obtain ⟨m, hm⟩ := hm
  refine (strings_Split s ⟨#[c]⟩ m w (by omega) hm (Nat.le_refl 1)).mono ?_
  rintro e w' ⟨rfl, rfl⟩
  obtain ⟨h1, h2⟩ := splitB_split c s
  rw [h1, h2]
  exact ⟨rfl, rfl⟩
end Go.Proofs.YtknonabeagbjeaaGreatDoor
namespace Go.Proofs.YtknonabeagbjeaaGreatDoor
open Go.RowKit

theorem enc_sizes {r : Int} (h1 : 128 ≤ r) (hv : Lib.validRune r = true) : ∃ E, Utf8.encode r = E ∧ ((E.size = 2 ∧ ∃ h : 1 < E.size, 128 ≤ (E[1]'h).toNat) ∨ E.size = 3 ∨ E.size = 4) := by
  unfold Lib.validRune at hv
  have hv2 := of_decide_eq_true hv
  have hval : Utf8.valid r = true := by
    unfold Utf8.valid
    simp only [Bool.or_eq_true, Bool.and_eq_true, decide_eq_true_eq]
    omega
  have c1 : ¬ r.toNat < 128 := by omega
  by_cases c2 : r.toNat < 2048
  · have e : Utf8.encode r = ⟨#[UInt8.ofNat (0xC0 + r.toNat / 64), UInt8.ofNat (0x80 + r.toNat % 64)]⟩ := by
      unfold Utf8.encode
      simp only [hval, if_true]
      rw [if_neg c1, if_pos c2]
    refine ⟨_, e, .inl ⟨rfl, Nat.lt_succ_self 1, ?_⟩⟩
    show 128 ≤ (UInt8.ofNat (128 + r.toNat % 64)).toNat
    rw [UInt8.toNat_ofNat']
    omega
  · by_cases c3 : r.toNat < 65536
    · have e : Utf8.encode r = ⟨#[UInt8.ofNat (0xE0 + r.toNat / 4096), UInt8.ofNat (0x80 + r.toNat / 64 % 64), UInt8.ofNat (0x80 + r.toNat % 64)]⟩ := by
        unfold Utf8.encode
        simp only [hval, if_true]
        rw [if_neg c1, if_neg c2, if_pos c3]
      exact ⟨_, e, .inr (.inl rfl)⟩
    · have e : Utf8.encode r = ⟨#[UInt8.ofNat (0xF0 + r.toNat / 262144), UInt8.ofNat (0x80 + r.toNat / 4096 % 64), UInt8.ofNat (0x80 + r.toNat / 64 % 64), UInt8.ofNat (0x80 + r.toNat % 64)]⟩ := by
        unfold Utf8.encode
        simp only [hval, if_true]
        rw [if_neg c1, if_neg c2, if_neg c3]
      exact ⟨_, e, .inr (.inr rfl)⟩

set_option maxRecDepth 100000 in
set_option maxHeartbeats 4000000 in
theorem indexRune_high (r : Int) (w : World) (h1 : 128 ≤ r) (h2 : r ≤ 2147483647) :
    Calls Tryz.prog 63 #[.string ⟨#[32, 9]⟩, .int .i32 r] w fun e w' => e = .returned (.int .i64 (-1)) ∧ Below w.heap.size w w' := by
  have KV := Lib.hid utf8_ValidRune
  have KB := Lib.hid strings_IndexByte
  have h0 : (0 : Int) ≤ r := by omega
  have q1 : ¬ r < 128 := by omega
  by_cases he : r = 65533
  · subst he
    have hn0 : ∀ ty, (Instr.next (.pointer (some ⟨w.heap.size, 0, none⟩)) true ty).run Tryz.prog (w.iter ⟨#[32, 9]⟩ 0) = .ok (.tuple #[.bool true, .int .i64 0, .int .i32 32]) (w.iter ⟨#[32, 9]⟩ 1) := fun ty => run_next_ascii (P := Tryz.prog) w ⟨#[32, 9]⟩ 0 ty (by decide) (by decide)
    have hn1 : ∀ ty, (Instr.next (.pointer (some ⟨w.heap.size, 0, none⟩)) true ty).run Tryz.prog (w.iter ⟨#[32, 9]⟩ 1) = .ok (.tuple #[.bool true, .int .i64 1, .int .i32 9]) (w.iter ⟨#[32, 9]⟩ 2) := fun ty => run_next_ascii (P := Tryz.prog) w ⟨#[32, 9]⟩ 1 ty (by decide) (by decide)
    have hn2 := fun ty => run_next_end (P := Tryz.prog) w ⟨#[32, 9]⟩ 2 ty (by decide)
    go_enter Tryz.func63, Tryz.ntmps63
    go_wp2_with fail
    refine wp_loop_rounds 3 ?_
    rw [rounds_succ]
    go_wp2_with fail
    rw [rounds_succ]
    go_wp2_with fail
    rw [rounds_succ]
    go_wp2_with fail
    go_returns
    exact ⟨rfl, (Below.refl _ w).alloc (Nat.le_refl _) _⟩
  · have q2 : (r == 65533) = false := by rw [beq_eq_false_iff_ne]; exact he
    have KV2 := Lib.hid (KV.out r w)
    clear he
    cases hv : Lib.validRune r with
    | false =>
      rw [hv] at KV2
      go_enter Tryz.func63, Tryz.ntmps63
      go_wp2_with fail
      refine KV2.out.mono ?_
      rintro e w1 ⟨rfl, hw1⟩
      subst w1
      go_wp2_with fail
      go_returns
      exact ⟨rfl, Below.refl _ _⟩
    | true =>
      rw [hv] at KV2
      obtain ⟨E, hE, hc⟩ := enc_sizes h1 hv
      clear hv
      rcases hc with ⟨z, hlt, hb⟩ | z | z
      · have zI : (E.size : Int) = 2 := by omega
        go_enter Tryz.func63, Tryz.ntmps63
        go_wp2_with fail
        refine KV2.out.mono ?_
        rintro e w1 ⟨rfl, hw1⟩
        subst w1
        go_wp2_with fail
        go_step3
        go_wp2_with fail
        have qn : (((((⟨#[32, 9]⟩ : ByteArray)[1]'(by decide)).toNat : Int)) != ((E[1]'hlt).toNat : Int)) = true := by
          rw [bne_iff_ne]
          show ((9 : Nat) : Int) ≠ _
          omega
        have hltI : (1 : Int) < E.size := by omega
        have KX : ∀ W, Calls Tryz.prog 82 #[.string ByteArray.empty, .int .u8 (E[1]'hlt).toNat] W fun e w' => e = .returned (.int .i64 (-1)) ∧ w' = W := fun W => KB.out ByteArray.empty _ W
        have KXH := Lib.hid KX
        clear KX
        refine wp_loop_rounds 1 ?_
        rw [rounds_succ]
        go_wp2_with fail
        go_step3
        go_wp2_with fail
        go_quiet (fail)
        go_wp2_with fail
        go_quiet ((refine (KXH.out _).mono ?_; rintro e w2 ⟨rfl, rfl⟩; exact ⟨rfl, _, rfl⟩))
        go_wp2_with fail
        rw [Exit.noGoto_ret]
        go_wp2_with fail
        rw [Exit.noGoto_ret]
        go_returns
        exact ⟨rfl, ⟨rfl, rfl, rfl, Nat.le_refl _, fun _ _ => rfl⟩⟩
      · have zI : (E.size : Int) = 3 := by omega
        go_enter Tryz.func63, Tryz.ntmps63
        go_wp2_with fail
        refine KV2.out.mono ?_
        rintro e w1 ⟨rfl, hw1⟩
        subst w1
        go_wp2_with fail
        go_step3
        go_wp2_with fail
        refine wp_loop_rounds 1 ?_
        rw [rounds_succ]
        go_wp2_with fail
        rw [Exit.noGoto_ret]
        go_returns
        exact ⟨rfl, Below.refl _ _⟩
      · have zI : (E.size : Int) = 4 := by omega
        go_enter Tryz.func63, Tryz.ntmps63
        go_wp2_with fail
        refine KV2.out.mono ?_
        rintro e w1 ⟨rfl, hw1⟩
        subst w1
        go_wp2_with fail
        go_step3
        go_wp2_with fail
        refine wp_loop_rounds 1 ?_
        rw [rounds_succ]
        go_wp2_with fail
        rw [Exit.noGoto_ret]
        go_returns
        exact ⟨rfl, Below.refl _ _⟩

/-- No blank ahead of place i: as a count. -/
theorem blank_high {c : UInt8} (h : 128 ≤ c.toNat) : blankB c = false := by
  unfold blankB
  rw [Bool.or_eq_false_iff, beq_eq_false_iff_ne, beq_eq_false_iff_ne]
  exact ⟨fun e => by rw [e] at h; exact absurd h (by decide), fun e => by rw [e] at h; exact absurd h (by decide)⟩
theorem decode_room (s : ByteArray) (pos : Nat) (h : pos < s.size) (ha : 128 ≤ (s[pos]'h).toNat) : ∀ k, k < (Utf8.decode s pos).2 → pos + k < s.size ∧ 128 ≤ (s.get! (pos + k)).toNat := by
  have hn : ¬ (s[pos]'h).toNat < 128 := by omega
  have h0 : pos + 0 < s.size ∧ 128 ≤ (s.get! (pos + 0)).toNat := ⟨h, by rw [get_at s pos h]; exact ha⟩
  have hc : ∀ k, (decide (pos + k < s.size) && ((s.get! (pos + k)).toNat / 64 == 2)) = true → pos + k < s.size ∧ 128 ≤ (s.get! (pos + k)).toNat := by
    intro k hk
    rw [Bool.and_eq_true, decide_eq_true_iff, beq_iff_eq] at hk
    exact ⟨hk.1, by omega⟩
  intro k hk
  simp only [Utf8.decode, get_at s pos h, hn, if_false] at hk
  split at hk
  · rename_i hb
    simp only [Bool.and_eq_true] at hb
    have c1 := hc 1 (by simpa using hb.2)
    have : k = 0 ∨ k = 1 := by split at hk <;> simp at hk <;> omega
    rcases this with rfl | rfl
    · exact h0
    · exact c1
  · split at hk
    · rename_i hb
      simp only [Bool.and_eq_true] at hb
      have c1 := hc 1 (by simpa using hb.1.2)
      have c2 := hc 2 (by simpa using hb.2)
      have : k = 0 ∨ k = 1 ∨ k = 2 := by split at hk <;> simp at hk <;> omega
      rcases this with rfl | rfl | rfl
      · exact h0
      · exact c1
      · exact c2
    · split at hk
      · rename_i hb
        simp only [Bool.and_eq_true] at hb
        have c1 := hc 1 (by simpa using hb.1.1.2)
        have c2 := hc 2 (by simpa using hb.1.2)
        have c3 := hc 3 (by simpa using hb.2)
        have : k = 0 ∨ k = 1 ∨ k = 2 ∨ k = 3 := by split at hk <;> simp at hk <;> omega
        rcases this with rfl | rfl | rfl | rfl
        · exact h0
        · exact c1
        · exact c2
        · exact c3
      · have : k = 0 := by simp at hk; omega
        subst this
        exact h0
theorem blankAt_skip (l : List UInt8) (i : Nat) : ∀ n, i + n ≤ l.length → (∀ k (h : i + k < l.length), k < n → blankB l[i + k] = false) → blankAt (l.drop i) = n + blankAt (l.drop (i + n))
  | 0, _, _ => by simp
  | n + 1, hn, h => by
    have ih := blankAt_skip l i n (by omega) (fun k hk hkn => h k hk (by omega))
    have hlt : i + n < l.length := by omega
    rw [ih, List.drop_eq_getElem_cons hlt]
    have hb := h n hlt (by omega)
    show n + (if blankB l[i + n] then 0 else blankAt (l.drop (i + n + 1)) + 1) = _
    rw [hb, if_neg (by decide)]
    rw [show i + n + 1 = i + (n + 1) by omega]
    omega
end Go.Proofs.YtknonabeagbjeaaGreatDoor
namespace Go.Proofs.YtknonabeagbjeaaGreatDoor
open Go.RowKit

def firstBlank (l : List UInt8) : Int := if blankAt l < l.length then (blankAt l : Int) else -1
theorem get_at' (s : ByteArray) (p : Nat) (h : p < s.size) : s.get! p = s[p]'h := by
  have := get_at s p h
  rwa [Nat.add_zero] at this
set_option maxRecDepth 100000 in
set_option maxHeartbeats 4000000 in
theorem indexAny_short (s : ByteArray) (w : World) (h8 : s.size ≤ 8) :
    Calls Tryz.prog 35 #[.string s, .string ⟨#[32, 9]⟩] w fun e w' => e = .returned (.int .i64 (firstBlank s.data.toList)) ∧ Below w.heap.size w w' := by
  have h8z : decide ((8 : Int) < (s.size : Int)) = false := decide_eq_false (by omega)
  have KA := Lib.hid strings_shouldUseASCIISet
  have KL := Lib.hid strings_IndexRune_ascii
  have KH := Lib.hid indexRune_high
  obtain ⟨M, hM⟩ : ∃ M, firstBlank s.data.toList = M := ⟨_, rfl⟩
  have HM := Lib.hid hM
  rw [hM]
  clear hM
  go_enter Tryz.func35, Tryz.ntmps35
  go_wp2_with fail
  refine (KA.out _ _).mono ?_
  rintro e w1 ⟨rfl, hw1⟩
  subst w1
  rw [h8z]
  go_wp2_with fail
  have hit0 : (w.iter s 0).heap[w.heap.size]? = some (.stringIter s 0) := World.iter_heap w s 0
  have hb0 : Below w.heap.size w (w.iter s 0) := (Below.refl _ w).alloc (Nat.le_refl _) _
  generalize w.iter s 0 = V at hit0 hb0 ⊢
  have H0 := Lib.hid hit0
  have HB0 := Lib.hid hb0
  clear hit0 hb0
  go_loopw [9, 10] (fun _ _ wr => ∃ i : Nat, i ≤ s.size ∧ Hid (wr.heap[w.heap.size]? = some (.stringIter s i)) ∧ Hid (blankAt s.data.toList = i + blankAt (s.data.toList.drop i)) ∧ Hid (Below w.heap.size w wr)) (fun _ _ wr => s.size - wr.iterPos w.heap.size)
  case atStart => exact ⟨0, Nat.zero_le _, H0, Lib.hid (by simp), HB0⟩
  case round =>
    clear H0 HB0
    obtain ⟨i, hi, HI, HL, HB⟩ := hrel
    have hmeas : wr.iterPos w.heap.size = i := by unfold World.iterPos; rw [HI.out]
    have HMe := Lib.hid hmeas
    clear hmeas
    by_cases hlt : i < s.size
    · obtain ⟨x, hx⟩ : ∃ x, s[i]'hlt = x := ⟨_, rfl⟩
      have hdrop : s.data.toList.drop i = x :: s.data.toList.drop (i + 1) := by rw [← hx]; exact List.drop_eq_getElem_cons (show i < s.data.toList.length from hlt)
      by_cases h128 : x.toNat < 128
      · have hnx := fun ty => Lib.run_next_ascii_at (P := Tryz.prog) wr w.heap.size s i ty HI.out hlt (by rw [hx]; exact h128)
        rw [hx] at hnx
        have KU := Lib.hid (fun W => KL.out ⟨#[32, 9]⟩ (x.toNat : Int) W (by omega) (by omega))
        have hback : ((x.toNat : Int)).toNat.toUInt8 = x := by simp
        rw [hback] at KU
        cases hb : blankB x with
        | true =>
          have hin : 0 ≤ Lib.indexByte (⟨#[32, 9]⟩ : ByteArray).data.toList x := by
            have h1 := Lib.contains_iff_indexByte (⟨#[32, 9]⟩ : ByteArray).data.toList x
            rw [show (⟨#[32, 9]⟩ : ByteArray).data.toList.contains x = blankB x from blank_has x, hb] at h1
            exact of_decide_eq_true h1.symm
          obtain ⟨J, hJ⟩ : ∃ J, Lib.indexByte (⟨#[32, 9]⟩ : ByteArray).data.toList x = J := ⟨_, rfl⟩
          rw [hJ] at KU hin
          have hMi : M = (i : Int) := by
            rw [← HM.out]
            have h2 := HL.out
            rw [hdrop, blankAt, hb, if_pos rfl, Nat.add_zero] at h2
            unfold firstBlank
            rw [h2, if_pos (show i < s.data.toList.length from hlt)]
          clear hdrop hback hx hJ hb h128 HM HL
          subst hMi
          go_wp2_with fail
          refine (KU.out _).mono ?_
          rintro e w1 ⟨rfl, hw1⟩
          subst w1
          go_wp2_with fail
          go_returns
          exact ⟨rfl, Lib.below_iterAt HB.out (Nat.le_refl _) _ _⟩
        | false =>
          have hin : ¬ 0 ≤ Lib.indexByte (⟨#[32, 9]⟩ : ByteArray).data.toList x := by
            have h1 := Lib.contains_iff_indexByte (⟨#[32, 9]⟩ : ByteArray).data.toList x
            rw [show (⟨#[32, 9]⟩ : ByteArray).data.toList.contains x = blankB x from blank_has x, hb] at h1
            exact of_decide_eq_false h1.symm
          obtain ⟨J, hJ⟩ : ∃ J, Lib.indexByte (⟨#[32, 9]⟩ : ByteArray).data.toList x = J := ⟨_, rfl⟩
          rw [hJ] at KU hin
          have HN : Hid (blankAt s.data.toList = (i + 1) + blankAt (s.data.toList.drop (i + 1))) := Lib.hid (by
            rw [HL.out, hdrop, blankAt, hb, if_neg (by decide)]
            omega)
          have HI2 := Lib.hid (Lib.iterAt_heap wr w.heap.size s i (i + 1) HI.out)
          have HB2 := Lib.hid (Lib.below_iterAt HB.out (Nat.le_refl _) s (i + 1))
          clear hdrop hback hx hJ hb h128 HL
          go_wp2_with fail
          refine (KU.out _).mono ?_
          rintro e w1 ⟨rfl, hw1⟩
          subst w1
          go_wp2_with fail
          go_roundw
          case rel => exact ⟨i + 1, hlt, HI2, HN, HB2⟩
          case measure =>
            rw [HMe.out]
            have : (wr.iterAt w.heap.size s (i + 1)).iterPos w.heap.size = i + 1 := by unfold World.iterPos; rw [HI2.out]
            rw [this]
            omega
      · have h128' : 128 ≤ (s[i]'hlt).toNat := by rw [hx]; omega
        have hnx := fun ty => Lib.run_next_any_at (P := Tryz.prog) wr w.heap.size s i ty HI.out hlt
        obtain ⟨c1, n1⟩ := decode_high s i hlt h128'
        have c2 := decode_le s i
        have hroom := decode_room s i hlt h128'
        generalize (Utf8.decode s i).1 = c at hnx c1 c2
        generalize (Utf8.decode s i).2 = n at hnx n1 hroom
        have hin : i + n ≤ s.size := by have := (hroom (n - 1) (by omega)).1; omega
        have HN : Hid (blankAt s.data.toList = (i + n) + blankAt (s.data.toList.drop (i + n))) := Lib.hid (by
          have h2 := blankAt_skip s.data.toList i n hin (fun k h hk => by
            have h3 := hroom k hk
            have h4 : s.get! (i + k) = s.data.toList[i + k] := get_at' s (i + k) h
            rw [h4] at h3
            exact blank_high h3.2)
          have := HL.out
          omega)
        have KU := Lib.hid (fun W => KH.out (c : Int) W (by omega) (by omega))
        have HI2 := Lib.hid (Lib.iterAt_heap wr w.heap.size s i (i + n) HI.out)
        have HB2 := Lib.hid (Lib.below_iterAt HB.out (Nat.le_refl _) s (i + n))
        clear hdrop hx h128 h128' hroom HL c1 c2
        go_wp2_with fail
        refine (KU.out _).mono ?_
        rintro e w1 ⟨rfl, hb1⟩
        have HI3 : Hid (w1.heap[w.heap.size]? = some (.stringIter s (i + n))) := Lib.hid ((hb1.block _ (Array.getElem?_eq_some_iff.1 HI2.out).1).trans HI2.out)
        have HB3 := Lib.hid (HB2.out.trans (hb1.mono HB2.out.size))
        clear hb1
        go_wp2_with fail
        go_roundw
        case rel => exact ⟨i + n, hin, HI3, HN, HB3⟩
        case measure =>
          rw [HMe.out]
          have : w1.iterPos w.heap.size = i + n := by unfold World.iterPos; rw [HI3.out]
          rw [this]
          omega
    · obtain rfl : i = s.size := by omega
      have hnx := fun ty => Lib.run_next_end_at (P := Tryz.prog) wr w.heap.size s s.size ty HI.out (by omega)
      have hMi : M = -1 := by
        rw [← HM.out]
        have h2 := HL.out
        unfold firstBlank
        rw [if_neg (by rw [h2]; have : s.data.toList.length = s.size := rfl; omega)]
      clear HM HL
      subst hMi
      go_wp2_with fail
      go_returns
      exact ⟨rfl, HB.out⟩

theorem str_IndexAny (s : ByteArray) (w : World) (hs : s.size ≤ 1000000) :
    Calls Tryz.prog 35 #[.string s, .string ⟨#[32, 9]⟩] w fun e w' => e = .returned (.int .i64 (firstBlank s.data.toList)) ∧ Below w.heap.size w w' := by
  by_cases h8 : s.size ≤ 8
  · exact indexAny_short s w h8
  · refine (strings_IndexAny_long (fun _ => by kernel_rfl) s ⟨#[32, 9]⟩ w (by decide) (by omega) (by omega) (by decide) (ascii_of_all (by decide))).mono ?_
    rintro e w' ⟨rfl, rfl⟩
    refine ⟨?_, ((Below.refl _ w).alloc (Nat.le_refl _) _).alloc (by simp) _⟩
    rw [show (⟨#[32, 9]⟩ : ByteArray).data.toList = [32, 9] from rfl, indexAny_blank]
    rfl
end Go.Proofs.YtknonabeagbjeaaGreatDoor
namespace Go.Proofs.YtknonabeagbjeaaGreatDoor
open Go.RowKit

theorem asm_letter (c : UInt8) (w : World) :
    Calls Tryz.prog 62 #[.int .u8 c.toNat] w fun e w' => e = .returned (.bool (letterB c)) ∧ w' = w := by
  unfold letterB smallB bigB
  by_cases h1 : 97 ≤ c.toNat
  · have q1 : (97 : Int) ≤ c.toNat := by omega
    rw [decide_eq_true h1]
    by_cases h2 : c.toNat ≤ 122
    · have q2 : (c.toNat : Int) ≤ 122 := by omega
      rw [decide_eq_true h2]
      go_enter Tryz.func62, Tryz.ntmps62
      go_wp2_with fail
      go_returns
      exact ⟨rfl, rfl⟩
    · have q2 : ¬ (c.toNat : Int) ≤ 122 := by omega
      have q3 : ¬ (c.toNat : Int) ≤ 90 := by omega
      have q4 : (65 : Int) ≤ c.toNat := by omega
      rw [decide_eq_false h2, decide_eq_true (show 65 ≤ c.toNat by omega), decide_eq_false (show ¬ c.toNat ≤ 90 by omega)]
      go_enter Tryz.func62, Tryz.ntmps62
      go_wp2_with fail
      go_returns
      exact ⟨rfl, rfl⟩
  · have q1 : ¬ (97 : Int) ≤ c.toNat := by omega
    rw [decide_eq_false h1]
    by_cases h2 : 65 ≤ c.toNat
    · have q2 : (65 : Int) ≤ c.toNat := by omega
      rw [decide_eq_true h2]
      by_cases h3 : c.toNat ≤ 90
      · have q3 : (c.toNat : Int) ≤ 90 := by omega
        rw [decide_eq_true h3]
        go_enter Tryz.func62, Tryz.ntmps62
        go_wp2_with fail
        go_returns
        exact ⟨rfl, rfl⟩
      · have q3 : ¬ (c.toNat : Int) ≤ 90 := by omega
        rw [decide_eq_false h3]
        go_enter Tryz.func62, Tryz.ntmps62
        go_wp2_with fail
        go_returns
        exact ⟨rfl, rfl⟩
    · have q2 : ¬ (65 : Int) ≤ c.toNat := by omega
      rw [decide_eq_false h2]
      go_enter Tryz.func62, Tryz.ntmps62
      go_wp2_with fail
      go_returns
      exact ⟨rfl, rfl⟩

theorem all_get {l : List UInt8} {p : UInt8 → Bool} (h : l.all p = true) (i : Nat) (hi : i < l.length) : p l[i] = true :=
  List.all_eq_true.1 h _ (List.getElem_mem hi)
theorem all_drop_get {l : List UInt8} {p : UInt8 → Bool} (i : Nat) (hi : i < l.length) : (l.drop i).all p = (p l[i] && (l.drop (i + 1)).all p) := by
  rw [List.drop_eq_getElem_cons hi, List.all_cons]
theorem label_parts (s : ByteArray) (h0 : 0 < s.size) : labelB s.data.toList = (letterB (s[0]'h0) && ((s.data.toList.drop 1).all nameB && decide (s.size ≤ 20))) := by
  have e : s.data.toList = s[0]'h0 :: s.data.toList.drop 1 := by
    have e : s.data.toList.drop 0 = s[0]'h0 :: s.data.toList.drop 1 := List.drop_eq_getElem_cons (show 0 < s.data.toList.length from h0)
    rwa [List.drop_zero] at e
  have hl : (s.data.toList.drop 1).length = s.size - 1 := by rw [List.length_drop]; rfl
  rw [e]
  show (letterB _ && ((s.data.toList.drop 1).all nameB && decide ((s.data.toList.drop 1).length < 20))) = _
  rw [hl, ← e]
  congr 2
  by_cases h : s.size ≤ 20
  · rw [decide_eq_true h, decide_eq_true (by omega)]
  · rw [decide_eq_false h, decide_eq_false (by omega)]

set_option maxHeartbeats 2000000 in
theorem asm_isLabel (s : ByteArray) (w : World) (hs : s.size ≤ 1000000) :
    Calls Tryz.prog 34 #[.string s] w fun e w' => e = .returned (.bool (labelB s.data.toList)) ∧ w' = w := by
  have KL := Lib.hid (fun c => asm_letter c w)
  rcases Nat.eq_zero_or_pos s.size with h0 | h0
  · have e := List.eq_nil_of_length_eq_zero (show s.data.toList.length = 0 from h0)
    obtain rfl : s = ⟨#[]⟩ := ba_eq e
    clear e h0
    go_enter Tryz.func34, Tryz.ntmps34
    go_wp2_with fail
    go_returns
    exact ⟨rfl, rfl⟩
  · obtain ⟨ne1, ne2⟩ := ne_nil s h0
    rw [label_parts s h0]
    have h0I : (0 : Int) < s.size := by omega
    by_cases h20 : s.size ≤ 20
    · rw [decide_eq_true h20, Bool.and_true]
      have q1 : ¬ (20 : Int) < s.size := by omega
      have KU := Lib.hid (KL.out (s[0]'h0))
      cases hl : letterB (s[0]'h0) with
      | false =>
        rw [hl] at KU
        clear hl
        go_enter Tryz.func34, Tryz.ntmps34
        go_wp2_with fail
        refine KU.out.mono ?_
        rintro e w1 ⟨rfl, hw1⟩
        subst w1
        go_wp2_with fail
        go_returns
        exact ⟨rfl, rfl⟩
      | true =>
        rw [hl] at KU
        rw [Bool.true_and]
        obtain ⟨M, hM⟩ : ∃ M, (s.data.toList.drop 1).all nameB = M := ⟨_, rfl⟩
        rw [hM]
        have HM := Lib.hid hM
        clear hM hl
        go_enter Tryz.func34, Tryz.ntmps34
        go_wp2_with fail
        refine KU.out.mono ?_
        rintro e w1 ⟨rfl, hw1⟩
        subst w1
        go_wp2_with fail
        go_loopw [3] (fun iv wr => ∃ i : Nat, 1 ≤ i ∧ i ≤ s.size ∧ iv = .int .i64 i ∧ Hid (M = (s.data.toList.drop i).all nameB) ∧ wr = w) (fun iv _ => s.size - (intOf iv).toNat)
        case atStart => exact ⟨1, Nat.le_refl _, h0, rfl, Lib.hid HM.out.symm, rfl⟩
        case round =>
          clear HM
          obtain ⟨i, h1, hi, rfl, HL, hw⟩ := hrel
          subst wr
          by_cases hlt : i < s.size
          · have hiI : (i : Int) < s.size := by omega
            have hi0 : (0 : Int) ≤ i := by omega
            obtain ⟨x, hx⟩ : ∃ x, s[i]'hlt = x := ⟨_, rfl⟩
            have hst : M = (nameB x && (s.data.toList.drop (i + 1)).all nameB) := by
              rw [HL.out, all_drop_get i (show i < s.data.toList.length from hlt)]
              rw [show s.data.toList[i]'hlt = x from hx]
            have KU := Lib.hid (KL.out x)
            unfold nameB isD at hst
            cases hlx : letterB x with
            | true =>
              rw [hlx] at KU
              rw [hlx, Bool.true_or, Bool.true_and] at hst
              have HN := Lib.hid hst
              clear hst HL hlx
              go_wp2_with fail
              refine KU.out.mono ?_
              rintro e w1 ⟨rfl, hw1⟩
              subst w1
              go_wp2_with fail
              go_roundw
              case rel => exact ⟨i + 1, by omega, hlt, by simp, HN, trivial⟩
              case measure => simp [intOf]; omega
            | false =>
              rw [hlx] at KU
              rw [hlx, Bool.false_or] at hst
              rcases (show x.toNat < 48 ∨ (48 ≤ x.toNat ∧ 57 < x.toNat) ∨ (48 ≤ x.toNat ∧ x.toNat ≤ 57) by omega) with hd | ⟨hd, hd2⟩ | ⟨hd, hd2⟩
              · have qd : (x.toNat : Int) < 48 := by omega
                have qu : ((x.toNat : Int) != 95) = true := by rw [bne_iff_ne]; omega
                rw [decide_eq_false (by omega), Bool.false_or, show (x == 95) = false from by rw [beq_eq_false_iff_ne]; intro e; rw [e] at hd; exact absurd hd (by decide), Bool.false_and] at hst
                subst hst
                clear HL hlx hd
                go_wp2_with fail
                refine KU.out.mono ?_
                rintro e w1 ⟨rfl, hw1⟩
                subst w1
                go_wp2_with fail
                go_returns
                exact ⟨rfl, rfl⟩
              · have qd : ¬ (x.toNat : Int) < 48 := by omega
                have qd2 : (57 : Int) < x.toNat := by omega
                rw [decide_eq_false (by omega), Bool.false_or] at hst
                by_cases hu : x = 95
                · have qu : ((x.toNat : Int) != 95) = false := by rw [hu]; rfl
                  rw [show (x == 95) = true from by rw [hu]; rfl, Bool.true_and] at hst
                  have HN := Lib.hid hst
                  clear hst HL hlx hd hd2 hu
                  go_wp2_with fail
                  refine KU.out.mono ?_
                  rintro e w1 ⟨rfl, hw1⟩
                  subst w1
                  go_wp2_with fail
                  go_roundw
                  case rel => exact ⟨i + 1, by omega, hlt, by simp, HN, trivial⟩
                  case measure => simp [intOf]; omega
                · have qu : ((x.toNat : Int) != 95) = true := by
                    rw [bne_iff_ne]
                    intro e
                    exact hu (UInt8.toNat_inj.1 (by rw [show (95 : UInt8).toNat = 95 from rfl]; omega))
                  rw [show (x == 95) = false from by rw [beq_eq_false_iff_ne]; exact hu, Bool.false_and] at hst
                  subst hst
                  clear HL hlx hd hd2 hu
                  go_wp2_with fail
                  refine KU.out.mono ?_
                  rintro e w1 ⟨rfl, hw1⟩
                  subst w1
                  go_wp2_with fail
                  go_returns
                  exact ⟨rfl, rfl⟩
              · have qd : ¬ (x.toNat : Int) < 48 := by omega
                have qd2 : ¬ (57 : Int) < x.toNat := by omega
                rw [decide_eq_true ⟨hd, hd2⟩, Bool.true_or, Bool.true_and] at hst
                have HN := Lib.hid hst
                clear hst HL hlx hd hd2
                go_wp2_with fail
                refine KU.out.mono ?_
                rintro e w1 ⟨rfl, hw1⟩
                subst w1
                go_wp2_with fail
                go_roundw
                case rel => exact ⟨i + 1, by omega, hlt, by simp, HN, trivial⟩
                case measure => simp [intOf]; omega
          · obtain rfl : i = s.size := by omega
            have hM : M = true := by
              rw [HL.out, List.drop_eq_nil_of_le (show s.data.toList.length ≤ s.size from Nat.le_refl _)]
              rfl
            clear HL
            subst hM
            go_wp2_with fail
            go_returns
            exact ⟨rfl, rfl⟩
    · rw [decide_eq_false h20, Bool.and_false, Bool.and_false]
      have q1 : (20 : Int) < s.size := by omega
      go_enter Tryz.func34, Tryz.ntmps34
      go_wp2_with fail
      go_returns
      exact ⟨rfl, rfl⟩

theorem undot_cases (s : ByteArray) : ∃ u : ByteArray, u.size ≤ s.size ∧ u.data.toList = undot s.data.toList ∧ (⟨(Lib.trimPrefix s.data.toList [46]).toArray⟩ : ByteArray) = u := by
  refine ⟨bs (undot s.data.toList), ?_, rfl, ?_⟩
  · show (undot s.data.toList).length ≤ s.data.toList.length
    cases s.data.toList with
    | nil => exact Nat.le_refl _
    | cons c r =>
      show (if c = 46 then r else c :: r).length ≤ _
      split <;> simp
  · congr 2
    unfold Lib.trimPrefix Lib.hasPrefix
    cases s.data.toList with
    | nil => rfl
    | cons c r =>
      show _ = if c = 46 then r else c :: r
      by_cases h : c = 46
      · subst h
        rw [if_pos (by simp [List.isPrefixOf]), if_pos rfl]
        rfl
      · rw [if_neg (by simp [List.isPrefixOf]; exact fun e => h e.symm), if_neg h]
set_option maxHeartbeats 2000000 in
theorem asm_isWord (s : ByteArray) (w : World) (hs : s.size ≤ 1000000) :
    Calls Tryz.prog 36 #[.string s] w fun e w' => e = .returned (.bool (wordB s.data.toList)) ∧ w' = w := by
  obtain ⟨u, hu, hul, hub⟩ := undot_cases s
  have KT := strings_TrimPrefix s ⟨#[46]⟩ w
  rw [show (⟨#[46]⟩ : ByteArray).data.toList = [46] from rfl, hub] at KT
  have KH := Lib.hid KT
  clear KT hub
  unfold wordB
  rw [← hul]
  clear hul
  rcases Nat.eq_zero_or_pos u.size with h0 | h0
  · have e := List.eq_nil_of_length_eq_zero (show u.data.toList.length = 0 from h0)
    obtain rfl : u = ⟨#[]⟩ := ba_eq e
    clear e h0
    go_enter Tryz.func36, Tryz.ntmps36
    go_wp2_with fail
    refine KH.out.mono ?_
    rintro e w1 ⟨rfl, hw1⟩
    subst w1
    go_wp2_with fail
    go_returns
    exact ⟨rfl, rfl⟩
  · obtain ⟨ne1, ne2⟩ := ne_nil u h0
    have hne : u.data.toList.isEmpty = false := by rw [← Lib.toList_data]; exact ne2
    rw [hne, Bool.not_false, Bool.and_true]
    clear hne
    obtain ⟨M, hM⟩ : ∃ M, u.data.toList.all smallB = M := ⟨_, rfl⟩
    rw [hM]
    have HM := Lib.hid hM
    clear hM
    go_enter Tryz.func36, Tryz.ntmps36
    go_wp2_with fail
    refine KH.out.mono ?_
    rintro e w1 ⟨rfl, hw1⟩
    subst w1
    go_wp2_with fail
    go_loopw [3] (fun iv wr => ∃ i : Nat, i ≤ u.size ∧ iv = .int .i64 i ∧ Hid (M = (u.data.toList.drop i).all smallB) ∧ wr = w) (fun iv _ => u.size - (intOf iv).toNat)
    case atStart => exact ⟨0, Nat.zero_le _, rfl, Lib.hid HM.out.symm, rfl⟩
    case round =>
      clear HM
      obtain ⟨i, hi, rfl, HL, hw⟩ := hrel
      subst wr
      by_cases hlt : i < u.size
      · have hiI : (i : Int) < u.size := by omega
        have hi0 : (0 : Int) ≤ i := by omega
        have huI : (u.size : Int) ≤ 1000000 := by omega
        obtain ⟨x, hx⟩ : ∃ x, u[i]'hlt = x := ⟨_, rfl⟩
        have hst : M = (smallB x && (u.data.toList.drop (i + 1)).all smallB) := by
          rw [HL.out, all_drop_get i (show i < u.data.toList.length from hlt)]
          rw [show u.data.toList[i]'hlt = x from hx]
        unfold smallB at hst
        rcases (show x.toNat < 97 ∨ (97 ≤ x.toNat ∧ 122 < x.toNat) ∨ (97 ≤ x.toNat ∧ x.toNat ≤ 122) by omega) with hd | ⟨hd, hd2⟩ | ⟨hd, hd2⟩
        · have qd : (x.toNat : Int) < 97 := by omega
          rw [decide_eq_false (by omega), Bool.false_and, Bool.false_and] at hst
          subst hst
          clear HL hd
          go_wp2_with fail
          go_returns
          exact ⟨rfl, rfl⟩
        · have qd : ¬ (x.toNat : Int) < 97 := by omega
          have qd2 : (122 : Int) < x.toNat := by omega
          rw [decide_eq_true hd, decide_eq_false (by omega), Bool.and_false, Bool.false_and] at hst
          subst hst
          clear HL hd hd2
          go_wp2_with fail
          go_returns
          exact ⟨rfl, rfl⟩
        · have qd : ¬ (x.toNat : Int) < 97 := by omega
          have qd2 : ¬ (122 : Int) < x.toNat := by omega
          rw [decide_eq_true hd, decide_eq_true hd2, Bool.true_and, Bool.true_and] at hst
          have HN : Hid (M = (u.data.toList.drop (i + 1)).all smallB) := Lib.hid hst
          clear hst HL hd hd2
          go_wp2_with fail
          go_roundw
          case rel => exact ⟨i + 1, hlt, by simp, HN, trivial⟩
          case measure => simp [intOf]; omega
      · obtain rfl : i = u.size := by omega
        have hM : M = true := by
          rw [HL.out, List.drop_eq_nil_of_le (show u.data.toList.length ≤ u.size from Nat.le_refl _)]
          rfl
        clear HL
        subst hM
        go_wp2_with fail
        go_returns
        exact ⟨rfl, rfl⟩
end Go.Proofs.YtknonabeagbjeaaGreatDoor
