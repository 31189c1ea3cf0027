/- Layer 12: a line's parts, walked. -/
import Derived.Test.YtknonabeagbjeaaGreatDoorBd
namespace Go.Proofs.YtknonabeagbjeaaGreatDoor
open Go.RowKit

/-- What stands behind a line's label. -/
def restX (u : List UInt8) : Option (List UInt8 × List (List UInt8)) :=
  if u = [] then some ([], []) else
  let o := u.take (blankAt u)
  let r := if blankAt u < u.length then trimP (u.drop (blankAt u)) else []
  if wordB o = false then none else
  if r = [] then some (o, []) else
  let ags := (splitP 44 r).map trimP
  if ags.all (fun a => !a.isEmpty) = false then none else some (o, ags)
theorem rest_map (lb u : List UInt8) :
    (if u = [] then some (lb, [], []) else
      if wordB (u.take (blankAt u)) = false then none else
      if (if blankAt u < u.length then trimP (u.drop (blankAt u)) else []) = [] then some (lb, u.take (blankAt u), []) else
      if ((splitP 44 (if blankAt u < u.length then trimP (u.drop (blankAt u)) else [])).map trimP).all (fun a => !a.isEmpty) = false then none else
      some (lb, u.take (blankAt u), (splitP 44 (if blankAt u < u.length then trimP (u.drop (blankAt u)) else [])).map trimP)) = (restX u).map fun x => (lb, x) := by
  unfold restX
  simp only
  generalize (if blankAt u < u.length then trimP (u.drop (blankAt u)) else []) = r
  by_cases h1 : u = []
  · rw [if_pos h1, if_pos h1]; rfl
  rw [if_neg h1, if_neg h1]
  by_cases h2 : wordB (u.take (blankAt u)) = false
  · rw [if_pos h2, if_pos h2]; rfl
  rw [if_neg h2, if_neg h2]
  by_cases h3 : r = []
  · rw [if_pos h3, if_pos h3]; rfl
  rw [if_neg h3, if_neg h3]
  by_cases h4 : ((splitP 44 r).map trimP).all (fun a => !a.isEmpty) = false
  · rw [if_pos h4, if_pos h4]; rfl
  rw [if_neg h4, if_neg h4]
  rfl
theorem lineX_rest (l : List UInt8) : lineX l = let s := trimP (l.take (findL 35 l))
    if findL 58 s < s.length then (if labelB (s.take (findL 58 s)) = false then none else (restX (trimP (s.drop (findL 58 s + 1)))).map fun x => (s.take (findL 58 s), x)) else (restX s).map fun x => ([], x) := by
  unfold lineX
  simp only
  generalize trimP (l.take (findL 35 l)) = s
  by_cases h : findL 58 s < s.length
  · simp only [h, if_true, true_and]
    by_cases hl : labelB (s.take (findL 58 s)) = false
    · rw [if_pos hl, if_pos hl]
    · rw [if_neg hl, if_neg hl]
      exact rest_map _ _
  · simp only [h, if_false, false_and]
    exact rest_map [] s
/-- What a line's reading gives. -/
def LineP (r : Option (List UInt8 × List UInt8 × List (List UInt8))) (w : World) (e : Ending) (w' : World) : Prop :=
  Below w.heap.size w w' ∧ match r with
  | none => e = .returned (.tuple #[.string ⟨#[]⟩, .string ⟨#[]⟩, .slice none 0 0, .int .i64 3])
  | some (lb, o, gs) => ∃ L c, e = .returned (.tuple #[sv lb, sv o, .slice L gs.length c, .int .i64 0]) ∧ Sl w' w'.heap.size L gs.length (gs.map sv) ∧ gs.length ≤ c
theorem LineP.bad {w w' : World} {r : Option (List UInt8 × List UInt8 × List (List UInt8))} (hr : r = none) (hb : Below w.heap.size w w') : LineP r w (.returned (.tuple #[.string ⟨#[]⟩, .string ⟨#[]⟩, .slice none 0 0, .int .i64 3])) w' := by
  subst hr
  exact ⟨hb, rfl⟩
theorem LineP.good {w w' : World} {r : Option (List UInt8 × List UInt8 × List (List UInt8))} {lb ob : ByteArray} {gs : List (List UInt8)} {L : Option Addr} {c : Nat} (hr : r = some (lb.data.toList, ob.data.toList, gs)) (hb : Below w.heap.size w w') (hS : Sl w' w'.heap.size L gs.length (gs.map sv)) (hc : gs.length ≤ c) : LineP r w (.returned (.tuple #[.string lb, .string ob, .slice L gs.length c, .int .i64 0])) w' := by
  subst hr
  refine ⟨hb, L, c, ?_, hS, hc⟩
  unfold sv
  rw [← bs_eq lb, ← bs_eq ob]
theorem restX_cases (u : List UInt8) : (u = [] ∧ restX u = some ([], [])) ∨ (u ≠ [] ∧ ∃ o r, u.take (blankAt u) = o ∧ ((blankAt u < u.length ∧ trimP (u.drop (blankAt u)) = r) ∨ (blankAt u = u.length ∧ r = [])) ∧
    ((wordB o = false ∧ restX u = none) ∨ (wordB o = true ∧ ((r = [] ∧ restX u = some (o, [])) ∨ (r ≠ [] ∧ restX u = if ((splitP 44 r).map trimP).all (fun a => !a.isEmpty) = false then none else some (o, (splitP 44 r).map trimP)))))) := by
  by_cases h1 : u = []
  · exact .inl ⟨h1, by unfold restX; rw [if_pos h1]⟩
  · refine .inr ⟨h1, _, (if blankAt u < u.length then trimP (u.drop (blankAt u)) else []), rfl, ?_, ?_⟩
    · have := blankAt_le u
      by_cases h : blankAt u < u.length
      · exact .inl ⟨h, by rw [if_pos h]⟩
      · exact .inr ⟨by omega, by rw [if_neg h]⟩
    · have e : restX u = if wordB (u.take (blankAt u)) = false then none else if (if blankAt u < u.length then trimP (u.drop (blankAt u)) else []) = [] then some (u.take (blankAt u), []) else if ((splitP 44 (if blankAt u < u.length then trimP (u.drop (blankAt u)) else [])).map trimP).all (fun a => !a.isEmpty) = false then none else some (u.take (blankAt u), (splitP 44 (if blankAt u < u.length then trimP (u.drop (blankAt u)) else [])).map trimP) := by
        unfold restX
        rw [if_neg h1]
      rw [e]
      generalize (if blankAt u < u.length then trimP (u.drop (blankAt u)) else []) = r
      cases hw : wordB (u.take (blankAt u)) with
      | false => exact .inl ⟨rfl, by rw [if_pos rfl]⟩
      | true =>
        refine .inr ⟨rfl, ?_⟩
        rw [if_neg (by decide)]
        by_cases h3 : r = []
        · exact .inl ⟨h3, by rw [if_pos h3]⟩
        · exact .inr ⟨h3, by rw [if_neg h3]⟩
theorem lines_bad {X : Option (List UInt8 × List UInt8 × List (List UInt8))} {lb : List UInt8} {R : Option (List UInt8 × List (List UInt8))} (h : R.map (fun x => (lb, x)) = X) (hR : R = none) : X = none := by rw [← h, hR]; rfl
theorem lines_good {X : Option (List UInt8 × List UInt8 × List (List UInt8))} {lb o : List UInt8} {gs : List (List UInt8)} {R : Option (List UInt8 × List (List UInt8))} (h : R.map (fun x => (lb, x)) = X) (hR : R = some (o, gs)) : X = some (lb, o, gs) := by rw [← h, hR]; rfl
theorem trimP_len (l : List UInt8) : (trimP l).length ≤ l.length := by
  have h : ∀ (p : UInt8 → Bool) (l : List UInt8), (l.dropWhile p).length ≤ l.length := by
    intro p l
    induction l with
    | nil => exact Nat.le_refl _
    | cons x r ih => rw [List.dropWhile_cons]; split <;> simp <;> omega
  unfold trimP trimR
  refine Nat.le_trans (h _ _) ?_
  rw [List.length_reverse]
  refine Nat.le_trans (h _ _) ?_
  rw [List.length_reverse]
  exact Nat.le_refl _
theorem splitN_mem (c : UInt8) : ∀ f (l : List UInt8) x, x ∈ splitN c f l → x.length ≤ l.length
  | 0, l, x, h => by
    unfold splitN at h
    rw [List.mem_singleton] at h
    rw [h]
    exact Nat.le_refl _
  | f + 1, l, x, h => by
    unfold splitN at h
    split at h
    · rw [List.mem_singleton] at h
      rw [h]
      exact Nat.le_refl _
    · rcases List.mem_cons.1 h with rfl | h
      · rw [List.length_take]; omega
      · have := splitN_mem c f _ x h
        rw [List.length_drop] at this
        omega
theorem splitN_len (c : UInt8) : ∀ f (l : List UInt8), (splitN c f l).length ≤ f + 1
  | 0, _ => Nat.le_refl _
  | f + 1, l => by
    unfold splitN
    split
    · simp
    · have := splitN_len c f (l.drop (findL c l + 1))
      simp
      omega
theorem ext_take (t : ByteArray) (k : Nat) : (t.extract 0 k).data.toList = t.data.toList.take k := by
  rw [Lib.extract_data]; simp
theorem ext_drop (t : ByteArray) (k : Nat) : (t.extract k t.size).data.toList = t.data.toList.drop k := by
  rw [Lib.extract_data]
  exact List.take_of_length_le (by rw [List.length_drop]; exact Nat.le_refl _)
theorem empty_of {t : ByteArray} (h : t.data.toList = []) : t = ⟨#[]⟩ := ba_eq h
theorem pos_of {t : ByteArray} (h : t.data.toList ≠ []) : 0 < t.size := List.length_pos_iff.2 h

set_option maxRecDepth 100000 in
set_option maxHeartbeats 8000000 in
theorem asm_Line (s : ByteArray) (w : World) (hs : s.size ≤ 100000) (hm : Mx w) :
    Calls Tryz.prog 19 #[.string s] w (LineP (lineX s.data.toList) w) := by
  have KC := Lib.hid str_Cut
  have KT := Lib.hid str_Trim
  have KL := Lib.hid asm_isLabel
  have KW := Lib.hid asm_isWord
  have KA := Lib.hid str_IndexAny
  have KS := Lib.hid str_Split
  obtain ⟨X, hX⟩ : ∃ X, lineX s.data.toList = X := ⟨_, rfl⟩
  rw [hX]
  rw [lineX_rest] at hX
  simp only at hX
  -- what stands ahead of the note
  obtain ⟨a, ha⟩ : ∃ a : ByteArray, (if findL 35 s.data.toList < s.size then bs (s.data.toList.take (findL 35 s.data.toList)) else s) = a := ⟨_, rfl⟩
  have hal : a.data.toList = s.data.toList.take (findL 35 s.data.toList) := by
    rw [← ha]
    split
    · rfl
    · rename_i h
      rw [List.take_of_length_le (by have := size_len s; omega)]
  have haz : a.size ≤ 100000 := by rw [size_len, hal, List.length_take]; have := size_len s; omega
  have K1 := KC.out s 35 w (by omega) hm
  rw [ha] at K1
  obtain ⟨a2, ha2⟩ : ∃ x : ByteArray, (if findL 35 s.data.toList < s.size then bs (s.data.toList.drop (findL 35 s.data.toList + 1)) else ⟨#[]⟩) = x := ⟨_, rfl⟩
  obtain ⟨ok1, hok1⟩ : ∃ x : Bool, decide (findL 35 s.data.toList < s.size) = x := ⟨_, rfl⟩
  rw [ha2, hok1] at K1
  have HK1 := Lib.hid K1
  clear K1 ha ha2 hok1
  rw [← hal] at hX
  clear hal
  obtain ⟨b, hb⟩ : ∃ b : ByteArray, bs (trimP a.data.toList) = b := ⟨_, rfl⟩
  have hbl : trimP a.data.toList = b.data.toList := by rw [← hb]
  have hbz : b.size ≤ 100000 := by
    have h1 := trimP_len a.data.toList
    rw [hbl] at h1
    have h2 := size_len b
    have h3 := size_len a
    omega
  have K2 := fun W => KT.out a W (by omega)
  rw [hb] at K2
  have HK2 := Lib.hid K2
  clear K2 hb
  rw [hbl] at hX
  clear hbl
  have K3 := fun W (h : Mx W) => KC.out b 58 W (by omega) h
  by_cases hc : findL 58 b.data.toList < b.size
  · rw [if_pos (show findL 58 b.data.toList < b.data.toList.length from hc)] at hX
    rw [if_pos hc, if_pos hc, decide_eq_true hc] at K3
    obtain ⟨lb, hlb⟩ : ∃ x : ByteArray, bs (b.data.toList.take (findL 58 b.data.toList)) = x := ⟨_, rfl⟩
    have hlbl : b.data.toList.take (findL 58 b.data.toList) = lb.data.toList := by rw [← hlb]
    obtain ⟨d, hd⟩ : ∃ x : ByteArray, bs (b.data.toList.drop (findL 58 b.data.toList + 1)) = x := ⟨_, rfl⟩
    have hdl : b.data.toList.drop (findL 58 b.data.toList + 1) = d.data.toList := by rw [← hd]
    rw [hlb, hd] at K3
    rw [hlbl, hdl] at hX
    have hdz : d.size ≤ 100000 := by rw [size_len, ← hdl, List.length_drop]; have := size_len b; omega
    have hlz : lb.size ≤ 100000 := by rw [size_len, ← hlbl, List.length_take]; have := size_len b; omega
    have HK3 := Lib.hid K3
    have HX := Lib.hid hX
    clear K3 hlb hd hlbl hdl hc hX
    cases hlab : labelB lb.data.toList with
    | false =>
      have hXn : X = none := by rw [← HX.out, if_pos hlab]
      have K4 := KL.out lb
      rw [hlab] at K4
      have HK4 := Lib.hid K4
      clear K4 hlab HX
      go_enter Tryz.func19, Tryz.ntmps19
      go_wp2_with fail
      refine HK1.out.mono ?_
      rintro e w1 ⟨rfl, b1⟩
      have m1 := hm.below b1
      go_wp2_with fail
      refine (HK2.out _).mono ?_
      rintro e w2 ⟨rfl, b2⟩
      have m2 := m1.below b2
      have c2 := b1.trans (b2.mono b1.size)
      go_wp2_with fail
      refine (HK3.out _ m2).mono ?_
      rintro e w3 ⟨rfl, b3⟩
      have c3 := c2.trans (b3.mono c2.size)
      go_wp2_with fail
      refine (HK4.out _ (by omega)).mono ?_
      rintro e w4 ⟨rfl, hw4⟩
      subst w4
      go_wp2_with fail
      go_returns
      exact LineP.bad hXn c3
    | true =>
      have K4 := KL.out lb
      rw [hlab] at K4
      have HK4 := Lib.hid K4
      clear K4
      obtain ⟨u, hu⟩ : ∃ x : ByteArray, bs (trimP d.data.toList) = x := ⟨_, rfl⟩
      have hul : trimP d.data.toList = u.data.toList := by rw [← hu]
      have huz : u.size ≤ 100000 := by
        have h1 := trimP_len d.data.toList
        rw [hul] at h1
        have h2 := size_len u
        have h3 := size_len d
        omega
      have K5 := fun W => KT.out d W (by omega)
      rw [hu] at K5
      have HK5 := Lib.hid K5
      have HX2 : Hid ((restX u.data.toList).map (fun x => (lb.data.toList, x)) = X) := by
        unfold Hid
        rw [← HX.out, if_neg (by rw [hlab]; decide), hul]
      clear K5 hu hul hlab HX
      go_enter Tryz.func19, Tryz.ntmps19
      go_wp2_with fail
      refine HK1.out.mono ?_
      rintro e w1 ⟨rfl, b1⟩
      have m1 := hm.below b1
      go_wp2_with fail
      refine (HK2.out _).mono ?_
      rintro e w2 ⟨rfl, b2⟩
      have m2 := m1.below b2
      have c2 := b1.trans (b2.mono b1.size)
      go_wp2_with fail
      refine (HK3.out _ m2).mono ?_
      rintro e w3 ⟨rfl, b3⟩
      have m3 := m2.below b3
      have c3 := c2.trans (b3.mono c2.size)
      go_wp2_with fail
      refine (HK4.out _ (by omega)).mono ?_
      rintro e w4 ⟨rfl, hw4⟩
      subst w4
      go_wp2_with fail
      refine (HK5.out _).mono ?_
      rintro e w5 ⟨rfl, b5⟩
      have m5 := m3.below b5
      have c5 := c3.trans (b5.mono c3.size)
      clear b1 b2 b3 b5 c2 c3 m1 m2 m3
      rcases restX_cases u.data.toList with ⟨h1, hR⟩ | ⟨h1, o, rl, ho, hr, hcase⟩
      · obtain rfl := empty_of h1
        have hX0 := Lib.hid (lines_good HX2.out hR)
        clear h1 hR HX2
        go_wp2_with fail
        go_returns
        exact LineP.good (ob := ⟨#[]⟩) (gs := []) hX0.out c5 Sl.nil (Nat.le_refl _)
      · have hup := pos_of h1
        obtain ⟨ue1, ue2⟩ := ne_nil u hup
        have KA1 := Lib.hid (fun W => KA.out u W (by omega))
        have hfb : firstBlank u.data.toList = if blankAt u.data.toList < u.size then (blankAt u.data.toList : Int) else -1 := rfl
        obtain ⟨n, hn⟩ : ∃ n, blankAt u.data.toList = n := ⟨_, rfl⟩
        rw [hn] at hfb ho hr
        clear h1 hn
        rcases hr with ⟨hlt, hrl⟩ | ⟨hge, rfl⟩
        · have hlt' : n < u.size := hlt
          rw [if_pos hlt'] at hfb
          rw [hfb] at KA1
          obtain ⟨ob, hob⟩ : ∃ x, u.extract 0 n = x := ⟨_, rfl⟩
          have hobl : ob.data.toList = o := by rw [← hob, ext_take, ho]
          have hobz : ob.size ≤ 100000 := by rw [← hob, ByteArray.size_extract]; omega
          obtain ⟨y, hy⟩ : ∃ x, u.extract n u.size = x := ⟨_, rfl⟩
          have hyl : y.data.toList = u.data.toList.drop n := by rw [← hy, ext_drop]
          have hyz : y.size ≤ 100000 := by rw [← hy, ByteArray.size_extract]; omega
          obtain ⟨r, hrr⟩ : ∃ x : ByteArray, bs (trimP y.data.toList) = x := ⟨_, rfl⟩
          have hrrl : r.data.toList = rl := by rw [← hrr, ← hrl, ← hyl]
          have hrz : r.size ≤ 100000 := by
            have h1 := trimP_len y.data.toList
            have h2 := size_len r
            have h3 := size_len y
            rw [show trimP y.data.toList = r.data.toList from by rw [← hrr]] at h1
            omega
          have KT2 := fun W => KT.out y W (by omega)
          rw [hrr] at KT2
          have HKT2 := Lib.hid KT2
          have HOB := Lib.hid hob
          have HY := Lib.hid hy
          have KW1 := fun W => KW.out ob W (by omega)
          subst hobl hrrl
          have hnI : (n : Int) < u.size := by omega
          have hn0 : (0 : Int) ≤ n := by omega
          have hnI2 : (n : Int) ≤ u.size := by omega
          have huI : (u.size : Int) ≤ 100000 := by omega
          clear hfb ho hlt hlt' hrl hob hy hyl hrr KT2
          rcases hcase with ⟨hw, hR⟩ | ⟨hw, hcase⟩
          · rw [hw] at KW1
            have HKW := Lib.hid KW1
            have hX0 := lines_bad HX2.out hR
            clear hw hR HX2 KW1
            go_wp2_with fail
            refine (KA1.out _).mono ?_
            rintro e w6 ⟨rfl, b6⟩
            have m6 := m5.below b6
            have c6 := c5.trans (b6.mono c5.size)
            go_wp2_with fail
            go_region_with (go_at_call 33; rw [HY.out]; refine (HKT2.out _).mono ?_; rintro e w7 ⟨rfl, b7⟩)
            have m7 : Mx w7 := Mx.below (w := w6.drew) m6 b7
            have c7 : Below w.heap.size w w7 := c6.drew.trans (b7.mono c6.size)
            clear b7
            go_wp2_with fail
            rw [HOB.out]
            refine (HKW.out _).mono ?_
            rintro e w9 ⟨rfl, hw9⟩
            subst w9
            go_wp2_with fail
            go_returns
            exact LineP.bad hX0 c7
          · rw [hw] at KW1
            have HKW := Lib.hid KW1
            clear hw KW1
            rcases hcase with ⟨h3, hR⟩ | ⟨h3, hR⟩
            · obtain rfl := empty_of h3
              have hX0 := Lib.hid (lines_good HX2.out hR)
              clear hR HX2 h3
              go_wp2_with fail
              refine (KA1.out _).mono ?_
              rintro e w6 ⟨rfl, b6⟩
              have m6 := m5.below b6
              have c6 := c5.trans (b6.mono c5.size)
              go_wp2_with fail
              go_region_with (go_at_call 33; rw [HY.out]; refine (HKT2.out _).mono ?_; rintro e w7 ⟨rfl, b7⟩)
              have m7 : Mx w7 := Mx.below (w := w6.drew) m6 b7
              have c7 : Below w.heap.size w w7 := c6.drew.trans (b7.mono c6.size)
              clear b7
              go_wp2_with fail
              rw [HOB.out]
              refine (HKW.out _).mono ?_
              rintro e w9 ⟨rfl, hw9⟩
              subst w9
              go_wp2_with fail
              go_returns
              exact LineP.good (gs := []) hX0.out c7 Sl.nil (Nat.le_refl _)
            · go_wp2_with fail
              refine (KA1.out _).mono ?_
              rintro e w6 ⟨rfl, b6⟩
              have m6 := m5.below b6
              have c6 := c5.trans (b6.mono c5.size)
              go_wp2_with fail
              go_region_with (go_at_call 33; rw [HY.out]; refine (HKT2.out _).mono ?_; rintro e w7 ⟨rfl, b7⟩)
              have m7 : Mx w7 := Mx.below (w := w6.drew) m6 b7
              have c7 : Below w.heap.size w w7 := c6.drew.trans (b7.mono c6.size)
              clear b7
              go_wp2_with fail
              rw [HOB.out]
              refine (HKW.out _).mono ?_
              rintro e w9 ⟨rfl, hw9⟩
              subst w9
              have hrp := pos_of h3
              obtain ⟨re1, re2⟩ := ne_nil r hrp
              have KS1 := Lib.hid (fun W (h : Mx W) => KS.out r 44 W (by omega) h)
              have hpl : (splitP 44 r.data.toList).length ≤ 100001 := by
                have h1 := splitN_len 44 r.data.toList.length r.data.toList
                have h2 := size_len r
                unfold splitP
                omega
              have hpm := fun x (hx : x ∈ splitP 44 r.data.toList) => splitN_mem 44 _ _ x hx
              obtain ⟨ps, hps⟩ : ∃ ps, splitP 44 r.data.toList = ps := ⟨_, rfl⟩
              rw [hps] at KS1 hpl hpm hR
              have HPM : Hid (∀ x, x ∈ ps → x.length ≤ 100000) := Lib.hid (fun x hx => by have h1 := hpm x hx; have h2 := size_len r; omega)
              have HR := Lib.hid hR
              clear hps hpm hR h3
              go_wp2_with fail
              refine (KS1.out _ m7).mono ?_
              rintro e w8 ⟨rfl, rfl⟩
              have hrow := Blk.new w7 9 (ps.map sv).toArray
              have c8 := c7.alloc c7.size (.cells (ps.map sv).toArray 9)
              generalize World.alloc w7 _ = V at hrow c8 ⊢
              generalize w7.heap.size = g at hrow ⊢
              have HROW := Lib.hid hrow
              have HC8 := Lib.hid c8
              have hgl := hrow.lt
              clear hrow c8
              go_wp2_with fail
              go_loopw [58, 2, 3, 4] (fun iv r2 r3 v wr => ∃ i : Nat, i ≤ ps.length ∧ iv = .int .i64 i ∧ r2 = .string lb ∧ r3 = .string ob ∧ wr.ownsRow V.heap.size 9 1 v i (((ps.take i).map trimP).map sv) ∧ Hid (((ps.take i).map trimP).all (fun a => !a.isEmpty) = true) ∧ Hid (Below V.heap.size V wr)) (fun iv _ _ _ _ => ps.length - (intOf iv).toNat)
              case atStart => exact ⟨0, Nat.zero_le _, rfl, rfl, rfl, World.ownsRow_nil _ _ _ _, Lib.hid rfl, Lib.hid (Below.refl _ _)⟩
              case round =>
                obtain ⟨i, hi, rfl, rfl, rfl, hown, HA, HB⟩ := hrel
                by_cases hlt : i < ps.length
                · have hiI : (i : Int) < ps.length := by omega
                  have hi0 : (0 : Int) ≤ i := by omega
                  have hnI : (ps.length : Int) ≤ 100001 := by omega
                  have hc0 : wr.cell? ⟨g, i, none⟩ = some (.string (bs ps[i])) := ((HROW.out.below HB.out hgl).cell i).trans (by rw [List.getElem?_toArray, List.getElem?_map, List.getElem?_eq_getElem hlt]; rfl)
                  have hpz := HPM.out ps[i] (List.getElem_mem hlt)
                  have hts : (ps.take (i + 1)).map trimP = (ps.take i).map trimP ++ [trimP ps[i]] := by rw [List.take_succ_eq_append_getElem hlt, List.map_append]; rfl
                  obtain ⟨p, hp⟩ : ∃ p : ByteArray, bs ps[i] = p := ⟨_, rfl⟩
                  have hpl2 : ps[i] = p.data.toList := by rw [← hp]
                  have hpz2 : p.size ≤ 100000 := by rw [size_len, ← hpl2]; exact hpz
                  rw [hp] at hc0
                  have hall : ps.map trimP = (ps.take i).map trimP ++ (trimP p.data.toList :: (ps.drop (i + 1)).map trimP) := by
                    rw [← hpl2]
                    have e2 : ps = ps.take i ++ ps[i] :: ps.drop (i + 1) := by rw [← List.drop_eq_getElem_cons hlt, List.take_append_drop]
                    have e3 := congrArg (List.map trimP) e2
                    rw [List.map_append, List.map_cons] at e3
                    exact e3
                  rw [hpl2] at hts
                  have KT1 := fun W => KT.out p W (by omega)
                  obtain ⟨q, hq⟩ : ∃ q : ByteArray, bs (trimP p.data.toList) = q := ⟨_, rfl⟩
                  have hql : trimP p.data.toList = q.data.toList := by rw [← hq]
                  rw [hq] at KT1
                  rw [hql] at hts hall
                  have HKT := Lib.hid KT1
                  have HTS := Lib.hid hts
                  have HALL := Lib.hid hall
                  have hbsz := HB.out.size
                  clear hp hpl2 hpz hts KT1 hq hql hall
                  rcases Nat.eq_zero_or_pos q.size with hq0 | hq0
                  · have qe := List.eq_nil_of_length_eq_zero (show q.data.toList.length = 0 from hq0)
                    obtain rfl := empty_of qe
                    have hX0 : X = none := lines_bad HX2.out (by
                      rw [HR.out, if_pos]
                      rw [HALL.out]
                      simp)
                    clear qe hq0 HR HX2 HALL HTS
                    go_wp2_with fail
                    refine (HKT.out _).mono ?_
                    rintro e w9 ⟨rfl, b9⟩
                    have c9 := HC8.out.trans ((HB.out.trans (b9.mono hbsz)).mono HC8.out.size)
                    go_wp2_with fail
                    go_returns
                    exact LineP.bad hX0 c9
                  · obtain ⟨qe1, qe2⟩ := ne_nil q hq0
                    have hqne : q.data.toList ≠ [] := fun e => by rw [size_len, e] at hq0; exact absurd hq0 (by decide)
                    have HAN : Hid (((ps.take (i + 1)).map trimP).all (fun a => !a.isEmpty) = true) := by
                      unfold Hid
                      rw [HTS.out, List.all_append, HA.out, Bool.true_and, List.all_cons, List.all_nil, Bool.and_true]
                      cases hh : q.data.toList with
                      | nil => exact absurd hh hqne
                      | cons => rfl
                    clear hqne HALL
                    go_wp2_with fail
                    refine (HKT.out _).mono ?_
                    rintro e w9 ⟨rfl, b9⟩
                    have own9 := own_below hown rfl b9
                    have B9 := Lib.hid (HB.out.trans (b9.mono hbsz))
                    have hs9 : V.heap.size ≤ w9.heap.size := Nat.le_trans hbsz b9.size
                    clear hown b9 hc0
                    go_wp2_with (at_builtin; refine wpList_append_new rfl _ _ 37 rfl V.heap.size (.string ⟨#[]⟩) 1 16 Tryz.underlying37 (by kernel_rfl) rfl (by decide) _ i _ rfl own9 1 rfl rfl (by simp [Value.oneCell']) (by omega) (by omega) hs9 ?_; intro v1 wa hown1 hb3 hk)
                    have HO : Hid (wa.ownsRow V.heap.size 9 1 v1 (i + 1) (((ps.take (i + 1)).map trimP).map sv)) := by
                      unfold Hid
                      rw [HTS.out, List.map_append]
                      have k := hown1
                      simp only [show Value.string q = sv q.data.toList from by unfold sv; rw [← bs_eq q]] at k
                      exact k
                    have HB3 := Lib.hid (B9.out.trans hb3)
                    clear own9 hown1 hb3 hk HKT
                    go_wp2_with fail
                    go_roundw
                    case rel => exact ⟨i + 1, hlt, by simp, rfl, rfl, HO.out, HAN, HB3⟩
                    case measure => simp [intOf]; omega
                · obtain rfl : i = ps.length := by omega
                  rw [List.take_of_length_le (Nat.le_refl _)] at hown HA
                  obtain ⟨A, c, rfl, hcc, -, hS⟩ := Sl.of_own hown
                  have HS := Lib.hid hS
                  have hX0 := Lib.hid (lines_good HX2.out (by rw [HR.out, if_neg (by rw [HA.out]; decide)]))
                  have hcz := HC8.out.trans (HB.out.mono HC8.out.size)
                  have HCZ := Lib.hid hcz
                  have hln : ps.length = (ps.map trimP).length := by simp
                  have HLN := Lib.hid hln
                  clear hown hS hcz hln
                  go_wp2_with fail
                  go_returns
                  rw [HLN.out]
                  exact LineP.good hX0.out HCZ.out (by rw [← HLN.out]; exact HS.out) (by rw [← HLN.out]; exact hcc)
        · have hnl : ¬ n < u.size := by have := size_len u; omega
          rw [if_neg hnl] at hfb
          rw [hfb] at KA1
          rw [List.take_of_length_le (by have := size_len u; omega)] at ho
          subst ho
          have KW1 := fun W => KW.out u W (by omega)
          clear hfb hge hnl
          rcases hcase with ⟨hw, hR⟩ | ⟨hw, hcase⟩
          · rw [hw] at KW1
            have HKW := Lib.hid KW1
            have hX0 := lines_bad HX2.out hR
            clear hw hR HX2 KW1
            go_wp2_with fail
            refine (KA1.out _).mono ?_
            rintro e w6 ⟨rfl, b6⟩
            have c6 := c5.trans (b6.mono c5.size)
            go_wp2_with fail
            refine (HKW.out _).mono ?_
            rintro e w9 ⟨rfl, hw9⟩
            subst w9
            go_wp2_with fail
            go_returns
            exact LineP.bad hX0 c6
          · rw [hw] at KW1
            have HKW := Lib.hid KW1
            rcases hcase with ⟨h3, hR⟩ | ⟨h3, hR⟩
            · have hX0 := Lib.hid (lines_good HX2.out hR)
              clear hR HX2 h3 hw KW1
              go_wp2_with fail
              refine (KA1.out _).mono ?_
              rintro e w6 ⟨rfl, b6⟩
              have c6 := c5.trans (b6.mono c5.size)
              go_wp2_with fail
              refine (HKW.out _).mono ?_
              rintro e w9 ⟨rfl, hw9⟩
              subst w9
              go_wp2_with fail
              go_returns
              exact LineP.good (gs := []) hX0.out c6 Sl.nil (Nat.le_refl _)
            · exact absurd rfl h3
  · rw [if_neg (show ¬ findL 58 b.data.toList < b.data.toList.length from hc)] at hX
    rw [if_neg hc, if_neg hc, decide_eq_false hc] at K3
    have HK3 := Lib.hid K3
    have HX2 : Hid ((restX b.data.toList).map (fun x => ((⟨#[]⟩ : ByteArray).data.toList, x)) = X) := Lib.hid hX
    clear K3 hc hX
    go_enter Tryz.func19, Tryz.ntmps19
    go_wp2_with fail
    refine HK1.out.mono ?_
    rintro e w1 ⟨rfl, b1⟩
    have m1 := hm.below b1
    go_wp2_with fail
    refine (HK2.out _).mono ?_
    rintro e w2 ⟨rfl, b2⟩
    have m2 := m1.below b2
    have c2 := b1.trans (b2.mono b1.size)
    go_wp2_with fail
    refine (HK3.out _ m2).mono ?_
    rintro e w5 ⟨rfl, b3⟩
    have m5 := m2.below b3
    have c5 := c2.trans (b3.mono c2.size)
    obtain ⟨u, rfl⟩ : ∃ u : ByteArray, u = b := ⟨_, rfl⟩
    have huz := hbz
    clear b1 b2 b3 c2 m1 m2
    rcases restX_cases u.data.toList with ⟨h1, hR⟩ | ⟨h1, o, rl, ho, hr, hcase⟩
    · obtain rfl := empty_of h1
      have hX0 := Lib.hid (lines_good HX2.out hR)
      clear h1 hR HX2
      go_wp2_with fail
      go_returns
      exact LineP.good (lb := ⟨#[]⟩) (ob := ⟨#[]⟩) (gs := []) hX0.out c5 Sl.nil (Nat.le_refl _)
    · have hup := pos_of h1
      obtain ⟨ue1, ue2⟩ := ne_nil u hup
      have KA1 := Lib.hid (fun W => KA.out u W (by omega))
      have hfb : firstBlank u.data.toList = if blankAt u.data.toList < u.size then (blankAt u.data.toList : Int) else -1 := rfl
      obtain ⟨n, hn⟩ : ∃ n, blankAt u.data.toList = n := ⟨_, rfl⟩
      rw [hn] at hfb ho hr
      clear h1 hn
      rcases hr with ⟨hlt, hrl⟩ | ⟨hge, rfl⟩
      · have hlt' : n < u.size := hlt
        rw [if_pos hlt'] at hfb
        rw [hfb] at KA1
        obtain ⟨ob, hob⟩ : ∃ x, u.extract 0 n = x := ⟨_, rfl⟩
        have hobl : ob.data.toList = o := by rw [← hob, ext_take, ho]
        have hobz : ob.size ≤ 100000 := by rw [← hob, ByteArray.size_extract]; omega
        obtain ⟨y, hy⟩ : ∃ x, u.extract n u.size = x := ⟨_, rfl⟩
        have hyl : y.data.toList = u.data.toList.drop n := by rw [← hy, ext_drop]
        have hyz : y.size ≤ 100000 := by rw [← hy, ByteArray.size_extract]; omega
        obtain ⟨r, hrr⟩ : ∃ x : ByteArray, bs (trimP y.data.toList) = x := ⟨_, rfl⟩
        have hrrl : r.data.toList = rl := by rw [← hrr, ← hrl, ← hyl]
        have hrz : r.size ≤ 100000 := by
          have h1 := trimP_len y.data.toList
          have h2 := size_len r
          have h3 := size_len y
          rw [show trimP y.data.toList = r.data.toList from by rw [← hrr]] at h1
          omega
        have KT2 := fun W => KT.out y W (by omega)
        rw [hrr] at KT2
        have HKT2 := Lib.hid KT2
        have HOB := Lib.hid hob
        have HY := Lib.hid hy
        have KW1 := fun W => KW.out ob W (by omega)
        subst hobl hrrl
        have hnI : (n : Int) < u.size := by omega
        have hn0 : (0 : Int) ≤ n := by omega
        have hnI2 : (n : Int) ≤ u.size := by omega
        have huI : (u.size : Int) ≤ 100000 := by omega
        clear hfb ho hlt hlt' hrl hob hy hyl hrr KT2
        rcases hcase with ⟨hw, hR⟩ | ⟨hw, hcase⟩
        · rw [hw] at KW1
          have HKW := Lib.hid KW1
          have hX0 := lines_bad HX2.out hR
          clear hw hR HX2 KW1
          go_wp2_with fail
          refine (KA1.out _).mono ?_
          rintro e w6 ⟨rfl, b6⟩
          have m6 := m5.below b6
          have c6 := c5.trans (b6.mono c5.size)
          go_wp2_with fail
          go_region_with (go_at_call 33; rw [HY.out]; refine (HKT2.out _).mono ?_; rintro e w7 ⟨rfl, b7⟩)
          have m7 : Mx w7 := Mx.below (w := w6.drew) m6 b7
          have c7 : Below w.heap.size w w7 := c6.drew.trans (b7.mono c6.size)
          clear b7
          go_wp2_with fail
          rw [HOB.out]
          refine (HKW.out _).mono ?_
          rintro e w9 ⟨rfl, hw9⟩
          subst w9
          go_wp2_with fail
          go_returns
          exact LineP.bad hX0 c7
        · rw [hw] at KW1
          have HKW := Lib.hid KW1
          clear hw KW1
          rcases hcase with ⟨h3, hR⟩ | ⟨h3, hR⟩
          · obtain rfl := empty_of h3
            have hX0 := Lib.hid (lines_good HX2.out hR)
            clear hR HX2 h3
            go_wp2_with fail
            refine (KA1.out _).mono ?_
            rintro e w6 ⟨rfl, b6⟩
            have m6 := m5.below b6
            have c6 := c5.trans (b6.mono c5.size)
            go_wp2_with fail
            go_region_with (go_at_call 33; rw [HY.out]; refine (HKT2.out _).mono ?_; rintro e w7 ⟨rfl, b7⟩)
            have m7 : Mx w7 := Mx.below (w := w6.drew) m6 b7
            have c7 : Below w.heap.size w w7 := c6.drew.trans (b7.mono c6.size)
            clear b7
            go_wp2_with fail
            rw [HOB.out]
            refine (HKW.out _).mono ?_
            rintro e w9 ⟨rfl, hw9⟩
            subst w9
            go_wp2_with fail
            go_returns
            exact LineP.good (lb := ⟨#[]⟩) (gs := []) hX0.out c7 Sl.nil (Nat.le_refl _)
          · go_wp2_with fail
            refine (KA1.out _).mono ?_
            rintro e w6 ⟨rfl, b6⟩
            have m6 := m5.below b6
            have c6 := c5.trans (b6.mono c5.size)
            go_wp2_with fail
            go_region_with (go_at_call 33; rw [HY.out]; refine (HKT2.out _).mono ?_; rintro e w7 ⟨rfl, b7⟩)
            have m7 : Mx w7 := Mx.below (w := w6.drew) m6 b7
            have c7 : Below w.heap.size w w7 := c6.drew.trans (b7.mono c6.size)
            clear b7
            go_wp2_with fail
            rw [HOB.out]
            refine (HKW.out _).mono ?_
            rintro e w9 ⟨rfl, hw9⟩
            subst w9
            have hrp := pos_of h3
            obtain ⟨re1, re2⟩ := ne_nil r hrp
            have KS1 := Lib.hid (fun W (h : Mx W) => KS.out r 44 W (by omega) h)
            have hpl : (splitP 44 r.data.toList).length ≤ 100001 := by
              have h1 := splitN_len 44 r.data.toList.length r.data.toList
              have h2 := size_len r
              unfold splitP
              omega
            have hpm := fun x (hx : x ∈ splitP 44 r.data.toList) => splitN_mem 44 _ _ x hx
            obtain ⟨ps, hps⟩ : ∃ ps, splitP 44 r.data.toList = ps := ⟨_, rfl⟩
            rw [hps] at KS1 hpl hpm hR
            have HPM : Hid (∀ x, x ∈ ps → x.length ≤ 100000) := Lib.hid (fun x hx => by have h1 := hpm x hx; have h2 := size_len r; omega)
            have HR := Lib.hid hR
            clear hps hpm hR h3
            go_wp2_with fail
            refine (KS1.out _ m7).mono ?_
            rintro e w8 ⟨rfl, rfl⟩
            have hrow := Blk.new w7 9 (ps.map sv).toArray
            have c8 := c7.alloc c7.size (.cells (ps.map sv).toArray 9)
            generalize World.alloc w7 _ = V at hrow c8 ⊢
            generalize w7.heap.size = g at hrow ⊢
            have HROW := Lib.hid hrow
            have HC8 := Lib.hid c8
            have hgl := hrow.lt
            clear hrow c8
            go_wp2_with fail
            go_loopw [58, 2, 3, 4] (fun iv r2 r3 v wr => ∃ i : Nat, i ≤ ps.length ∧ iv = .int .i64 i ∧ r2 = .string ⟨#[]⟩ ∧ r3 = .string ob ∧ wr.ownsRow V.heap.size 9 1 v i (((ps.take i).map trimP).map sv) ∧ Hid (((ps.take i).map trimP).all (fun a => !a.isEmpty) = true) ∧ Hid (Below V.heap.size V wr)) (fun iv _ _ _ _ => ps.length - (intOf iv).toNat)
            case atStart => exact ⟨0, Nat.zero_le _, rfl, rfl, rfl, World.ownsRow_nil _ _ _ _, Lib.hid rfl, Lib.hid (Below.refl _ _)⟩
            case round =>
              obtain ⟨i, hi, rfl, rfl, rfl, hown, HA, HB⟩ := hrel
              by_cases hlt : i < ps.length
              · have hiI : (i : Int) < ps.length := by omega
                have hi0 : (0 : Int) ≤ i := by omega
                have hnI : (ps.length : Int) ≤ 100001 := by omega
                have hc0 : wr.cell? ⟨g, i, none⟩ = some (.string (bs ps[i])) := ((HROW.out.below HB.out hgl).cell i).trans (by rw [List.getElem?_toArray, List.getElem?_map, List.getElem?_eq_getElem hlt]; rfl)
                have hpz := HPM.out ps[i] (List.getElem_mem hlt)
                have hts : (ps.take (i + 1)).map trimP = (ps.take i).map trimP ++ [trimP ps[i]] := by rw [List.take_succ_eq_append_getElem hlt, List.map_append]; rfl
                obtain ⟨p, hp⟩ : ∃ p : ByteArray, bs ps[i] = p := ⟨_, rfl⟩
                have hpl2 : ps[i] = p.data.toList := by rw [← hp]
                have hpz2 : p.size ≤ 100000 := by rw [size_len, ← hpl2]; exact hpz
                rw [hp] at hc0
                have hall : ps.map trimP = (ps.take i).map trimP ++ (trimP p.data.toList :: (ps.drop (i + 1)).map trimP) := by
                  rw [← hpl2]
                  have e2 : ps = ps.take i ++ ps[i] :: ps.drop (i + 1) := by rw [← List.drop_eq_getElem_cons hlt, List.take_append_drop]
                  have e3 := congrArg (List.map trimP) e2
                  rw [List.map_append, List.map_cons] at e3
                  exact e3
                rw [hpl2] at hts
                have KT1 := fun W => KT.out p W (by omega)
                obtain ⟨q, hq⟩ : ∃ q : ByteArray, bs (trimP p.data.toList) = q := ⟨_, rfl⟩
                have hql : trimP p.data.toList = q.data.toList := by rw [← hq]
                rw [hq] at KT1
                rw [hql] at hts hall
                have HKT := Lib.hid KT1
                have HTS := Lib.hid hts
                have HALL := Lib.hid hall
                have hbsz := HB.out.size
                clear hp hpl2 hpz hts KT1 hq hql hall
                rcases Nat.eq_zero_or_pos q.size with hq0 | hq0
                · have qe := List.eq_nil_of_length_eq_zero (show q.data.toList.length = 0 from hq0)
                  obtain rfl := empty_of qe
                  have hX0 : X = none := lines_bad HX2.out (by
                    rw [HR.out, if_pos]
                    rw [HALL.out]
                    simp)
                  clear qe hq0 HR HX2 HALL HTS
                  go_wp2_with fail
                  refine (HKT.out _).mono ?_
                  rintro e w9 ⟨rfl, b9⟩
                  have c9 := HC8.out.trans ((HB.out.trans (b9.mono hbsz)).mono HC8.out.size)
                  go_wp2_with fail
                  go_returns
                  exact LineP.bad hX0 c9
                · obtain ⟨qe1, qe2⟩ := ne_nil q hq0
                  have hqne : q.data.toList ≠ [] := fun e => by rw [size_len, e] at hq0; exact absurd hq0 (by decide)
                  have HAN : Hid (((ps.take (i + 1)).map trimP).all (fun a => !a.isEmpty) = true) := by
                    unfold Hid
                    rw [HTS.out, List.all_append, HA.out, Bool.true_and, List.all_cons, List.all_nil, Bool.and_true]
                    cases hh : q.data.toList with
                    | nil => exact absurd hh hqne
                    | cons => rfl
                  clear hqne HALL
                  go_wp2_with fail
                  refine (HKT.out _).mono ?_
                  rintro e w9 ⟨rfl, b9⟩
                  have own9 := own_below hown rfl b9
                  have B9 := Lib.hid (HB.out.trans (b9.mono hbsz))
                  have hs9 : V.heap.size ≤ w9.heap.size := Nat.le_trans hbsz b9.size
                  clear hown b9 hc0
                  go_wp2_with (at_builtin; refine wpList_append_new rfl _ _ 37 rfl V.heap.size (.string ⟨#[]⟩) 1 16 Tryz.underlying37 (by kernel_rfl) rfl (by decide) _ i _ rfl own9 1 rfl rfl (by simp [Value.oneCell']) (by omega) (by omega) hs9 ?_; intro v1 wa hown1 hb3 hk)
                  have HO : Hid (wa.ownsRow V.heap.size 9 1 v1 (i + 1) (((ps.take (i + 1)).map trimP).map sv)) := by
                    unfold Hid
                    rw [HTS.out, List.map_append]
                    have k := hown1
                    simp only [show Value.string q = sv q.data.toList from by unfold sv; rw [← bs_eq q]] at k
                    exact k
                  have HB3 := Lib.hid (B9.out.trans hb3)
                  clear own9 hown1 hb3 hk HKT
                  go_wp2_with fail
                  go_roundw
                  case rel => exact ⟨i + 1, hlt, by simp, rfl, rfl, HO.out, HAN, HB3⟩
                  case measure => simp [intOf]; omega
              · obtain rfl : i = ps.length := by omega
                rw [List.take_of_length_le (Nat.le_refl _)] at hown HA
                obtain ⟨A, c, rfl, hcc, -, hS⟩ := Sl.of_own hown
                have HS := Lib.hid hS
                have hX0 := Lib.hid (lines_good HX2.out (by rw [HR.out, if_neg (by rw [HA.out]; decide)]))
                have hcz := HC8.out.trans (HB.out.mono HC8.out.size)
                have HCZ := Lib.hid hcz
                have hln : ps.length = (ps.map trimP).length := by simp
                have HLN := Lib.hid hln
                clear hown hS hcz hln
                go_wp2_with fail
                go_returns
                rw [HLN.out]
                exact LineP.good (lb := ⟨#[]⟩) hX0.out HCZ.out (by rw [← HLN.out]; exact HS.out) (by rw [← HLN.out]; exact hcc)
      · have hnl : ¬ n < u.size := by have := size_len u; omega
        rw [if_neg hnl] at hfb
        rw [hfb] at KA1
        rw [List.take_of_length_le (by have := size_len u; omega)] at ho
        subst ho
        have KW1 := fun W => KW.out u W (by omega)
        clear hfb hge hnl
        rcases hcase with ⟨hw, hR⟩ | ⟨hw, hcase⟩
        · rw [hw] at KW1
          have HKW := Lib.hid KW1
          have hX0 := lines_bad HX2.out hR
          clear hw hR HX2 KW1
          go_wp2_with fail
          refine (KA1.out _).mono ?_
          rintro e w6 ⟨rfl, b6⟩
          have c6 := c5.trans (b6.mono c5.size)
          go_wp2_with fail
          refine (HKW.out _).mono ?_
          rintro e w9 ⟨rfl, hw9⟩
          subst w9
          go_wp2_with fail
          go_returns
          exact LineP.bad hX0 c6
        · rw [hw] at KW1
          have HKW := Lib.hid KW1
          rcases hcase with ⟨h3, hR⟩ | ⟨h3, hR⟩
          · have hX0 := Lib.hid (lines_good HX2.out hR)
            clear hR HX2 h3 hw KW1
            go_wp2_with fail
            refine (KA1.out _).mono ?_
            rintro e w6 ⟨rfl, b6⟩
            have c6 := c5.trans (b6.mono c5.size)
            go_wp2_with fail
            refine (HKW.out _).mono ?_
            rintro e w9 ⟨rfl, hw9⟩
            subst w9
            go_wp2_with fail
            go_returns
            exact LineP.good (lb := ⟨#[]⟩) (gs := []) hX0.out c6 Sl.nil (Nat.le_refl _)
          · exact absurd rfl h3
end Go.Proofs.YtknonabeagbjeaaGreatDoor
