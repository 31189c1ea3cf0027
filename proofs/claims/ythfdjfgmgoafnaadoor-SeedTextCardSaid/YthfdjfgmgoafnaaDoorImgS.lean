/- Layer 8: alike, and the document's reading; walked. -/
import Derived.Test.YthfdjfgmgoafnaaDoorHxA
import Derived.Test.YthfdjfgmgoafnaaDoorPb
import Derived.Test.YthfdjfgmgoafnaaDoorImgR
namespace Go.Proofs.YthfdjfgmgoafnaaDoor
open Go.RowKit

def sameB (xs ys : List UInt32) (d1 d2 : Int) : Bool := decide (d1 = d2 ∧ xs = ys)
theorem sl_agg {w : World} {A : Option Addr} {n c : Nat} {d : Int} {t : TypeId} : (w.alloc (.cells #[.slice A n c, .int .i64 d] t)).cell? ⟨w.heap.size, 0, none⟩ = some (.slice A n c) := World.cell?_alloc_mark _ _ _ _ _
set_option maxHeartbeats 400000 in
theorem ref_word (s : ByteArray) (i : Int) (k : Nat) (hi : i = k) (w : World) (h0 : k + 3 < s.size) (hs : s.size ≤ 1000000000000) :
    Calls Tryd.prog 65 #[.string s, .int .i64 i] w fun e w' => e = .returned (.int .u32 (word4 (s[k]'(by omega)) (s[k + 1]'(by omega)) (s[k + 2]'(by omega)) (s[k + 3]'h0)).toNat) ∧ Below w.heap.size w w' := by
  subst hi
  have i0 : k < s.size := by omega
  have i1 : k + 1 < s.size := by omega
  have i2 : k + 2 < s.size := by omega
  have j0 : (k : Int) < s.size := by omega
  have j1 : (k : Int) + 1 < s.size := by omega
  have j2 : (k : Int) + 2 < s.size := by omega
  have j3 : (k : Int) + 3 < s.size := by omega
  have p1 : 0 ≤ (k : Int) + 1 := by omega
  have p2 : 0 ≤ (k : Int) + 2 := by omega
  have p3 : 0 ≤ (k : Int) + 3 := by omega
  have t1 : ((k : Int) + 1).toNat = k + 1 := by omega
  have t2 : ((k : Int) + 2).toNat = k + 2 := by omega
  have t3 : ((k : Int) + 3).toNat = k + 3 := by omega
  go_enter Tryd.func65, Tryd.ntmps65
  go_wp2
  go_quiet (fail)
  go_wp2
  go_returns
  refine ⟨ret_int ?_, below_drewN (Below.refl _ w) _⟩
  have b0 := (s[k]'i0).toNat_lt
  have b1 := (s[k + 1]'i1).toNat_lt
  have b2 := (s[k + 2]'i2).toNat_lt
  have b3 := (s[k + 3]'h0).toNat_lt
  rw [word4_toNat]
  omega

theorem take8 (l : List UInt8) (k : Nat) (h : k + 8 ≤ l.length) : (l.drop k).take 8 = [l[k], l[k + 1], l[k + 2], l[k + 3], l[k + 4], l[k + 5], l[k + 6], l[k + 7]] := by
  rw [List.drop_eq_getElem_cons (by omega), List.drop_eq_getElem_cons (by omega), List.drop_eq_getElem_cons (by omega), List.drop_eq_getElem_cons (by omega), List.drop_eq_getElem_cons (by omega), List.drop_eq_getElem_cons (by omega), List.drop_eq_getElem_cons (by omega), List.drop_eq_getElem_cons (by omega)]
  rfl
theorem take4 (l : List UInt8) (h : 4 ≤ l.length) : l.take 4 = [l[0], l[1], l[2], l[3]] := by
  match l, h with
  | a :: b :: c :: d :: r, _ => rfl

set_option maxRecDepth 100000 in
set_option maxHeartbeats 1600000 in
theorem refRead_ok (s : ByteArray) (code : List UInt32) (d : Nat) (w : World) (h : readI s.data.toList = some (code, d)) :
    Calls Tryd.prog 59 #[.string s] w fun e W' => (∃ v, e = .returned (.tuple #[.agg #[v, .int .i64 d], .int .i64 0]) ∧ W'.ownsRow w.heap.size 47 1 v code.length (code.map wv)) ∧ Below w.heap.size w W' := by
  have hl : s.data.toList.length = s.size := rfl
  unfold readI at h
  rw [hl] at h
  by_cases h1 : s.size < 12
  · rw [if_pos h1] at h; cases h
  rw [if_neg h1] at h
  by_cases h2 : s.data.toList.take 4 ≠ [83, 69, 69, 68]
  · rw [if_pos h2] at h; cases h
  rw [if_neg h2] at h
  by_cases h3 : 65548 < s.size
  · rw [if_pos h3] at h; cases h
  rw [if_neg h3] at h
  have h12 : 12 ≤ s.size := by omega
  have h8 : 12 ≤ s.data.toList.length := by omega
  have hnd : wordsL ((s.data.toList.drop 4).take 8) = [word4 (s[4]'(Nat.lt_of_lt_of_le (by decide : 4 < 12) h12)) (s[5]'(Nat.lt_of_lt_of_le (by decide : 5 < 12) h12)) (s[6]'(Nat.lt_of_lt_of_le (by decide : 6 < 12) h12)) (s[7]'(Nat.lt_of_lt_of_le (by decide : 7 < 12) h12)), word4 (s[8]'(Nat.lt_of_lt_of_le (by decide : 8 < 12) h12)) (s[9]'(Nat.lt_of_lt_of_le (by decide : 9 < 12) h12)) (s[10]'(Nat.lt_of_lt_of_le (by decide : 10 < 12) h12)) (s[11]'(Nat.lt_of_lt_of_le (by decide : 11 < 12) h12))] := by
    rw [take8 _ 4 h8]; rfl
  have hm4 := take4 s.data.toList (by omega)
  generalize hnw : word4 (s[4]'(Nat.lt_of_lt_of_le (by decide : 4 < 12) h12)) (s[5]'(Nat.lt_of_lt_of_le (by decide : 5 < 12) h12)) (s[6]'(Nat.lt_of_lt_of_le (by decide : 6 < 12) h12)) (s[7]'(Nat.lt_of_lt_of_le (by decide : 7 < 12) h12)) = nw at hnd
  generalize hdw : word4 (s[8]'(Nat.lt_of_lt_of_le (by decide : 8 < 12) h12)) (s[9]'(Nat.lt_of_lt_of_le (by decide : 9 < 12) h12)) (s[10]'(Nat.lt_of_lt_of_le (by decide : 10 < 12) h12)) (s[11]'(Nat.lt_of_lt_of_le (by decide : 11 < 12) h12)) = dw at hnd
  have HNW := Lib.hid hnw
  have HDW := Lib.hid hdw
  rw [hnd] at h
  dsimp only at h
  by_cases h4 : 32768 < dw.toNat
  · rw [if_pos h4] at h; cases h
  rw [if_neg h4] at h
  by_cases h5 : s.size ≠ 12 + 4 * nw.toNat
  · rw [if_pos h5] at h; cases h
  rw [if_neg h5] at h
  injection h with h
  obtain ⟨hcode, hd⟩ := Prod.mk.inj h
  clear h
  rw [Decidable.of_not_not h2] at hm4
  injection hm4 with m0 hm4
  injection hm4 with m1 hm4
  injection hm4 with m2 hm4
  injection hm4 with m3 _
  have i0 : 0 < s.size := Nat.lt_of_lt_of_le (by decide) h12
  have i1 : 1 < s.size := Nat.lt_of_lt_of_le (by decide) h12
  have i2 : 2 < s.size := Nat.lt_of_lt_of_le (by decide) h12
  have i3 : 3 < s.size := Nat.lt_of_lt_of_le (by decide) h12
  have n0 : (((s[0]'i0).toNat : Int) != 83) = false := by rw [show s[0]'i0 = 83 from m0.symm]; rfl
  have n1 : (((s[1]'i1).toNat : Int) != 69) = false := by rw [show s[1]'i1 = 69 from m1.symm]; rfl
  have n2 : (((s[2]'i2).toNat : Int) != 69) = false := by rw [show s[2]'i2 = 69 from m2.symm]; rfl
  have n3 : (((s[3]'i3).toNat : Int) != 68) = false := by rw [show s[3]'i3 = 68 from m3.symm]; rfl
  have HC := Lib.hid hcode
  have HD := Lib.hid hd
  have h5' : s.size = 12 + 4 * nw.toNat := by omega
  have H5 := Lib.hid h5'
  have hsz : s.size ≤ 65548 := by omega
  have hz1 : ¬ (s.size : Int) < 12 := by omega
  have hz4 : ¬ 32768 < (dw.toNat : Int) := by omega
  have hz6 : ¬ 16384 < (nw.toNat : Int) := by omega
  have hz5 : ((s.size : Int) != 12 + 4 * (nw.toNat : Int)) = false := by rw [bne_eq_false_iff_eq]; omega
  clear hl h1 h2 h3 h4 h5 hnd hcode hd h5' m0 m1 m2 m3 h8 hnw hdw
  go_enter Tryd.func59, Tryd.ntmps59
  go_wp2_with fail
  refine (ref_word s 4 4 rfl _ (by omega) (by omega)).mono ?_
  rintro e w1 ⟨he, hb1⟩
  obtain rfl : e = .returned (.int .u32 nw.toNat) := he.trans (by rw [← HNW.out])
  clear he
  go_wp2_with fail
  refine (ref_word s 8 8 rfl _ (by omega) (by omega)).mono ?_
  rintro e w2 ⟨he, hb2⟩
  obtain rfl : e = .returned (.int .u32 dw.toNat) := he.trans (by rw [← HDW.out])
  clear he
  have hBlk0 : Blk w2 w.heap.size 25 #[.slice none 0 0, .int .i64 0] := ((Blk.new w _ _).below hb1 (by simp)).below hb2 (by have := hb1.size; simp at this; omega)
  have hB2 : Below w.heap.size w w2 := (below_new hb1).trans (hb2.mono (by have := hb1.size; simp at this; omega))
  have hs2 : w.heap.size < w2.heap.size := by have := hb1.size; have := hb2.size; simp at *; omega
  clear hb1 hb2
  go_wp2_with fail
  go_loopw [7] (fun i wr => ∃ (k : Nat) (v : Value), k ≤ nw.toNat ∧ i = .int .i64 k ∧ Blk wr w2.heap.size 25 #[v, .int .i64 dw.toNat] ∧ Blk wr w.heap.size 25 #[.slice none 0 0, .int .i64 0] ∧
      wr.ownsRow (w2.heap.size + 1) 47 1 v k ((wordsL ((s.data.toList.drop 12).take (4 * k))).map wv) ∧ Below w.heap.size w wr) (fun i _ => nw.toNat - (intOf i).toNat)
  case atStart => exact ⟨0, _, by omega, rfl, Blk.new _ _ _, hBlk0.alloc _, World.ownsRow_nil _ _ _ _, hB2.alloc hB2.size _⟩
  case round =>
    clear hBlk0 hB2
    obtain ⟨k, v, hk, rfl, hM, hR, hown, hbel⟩ := hrel
    have hwr := hM.lt
    obtain ⟨A, c, rfl, hkc, _, _⟩ := Sl.of_own hown
    have hm0 := hM.cell 0
    have hm1 := hM.cell 1
    have hmf := hM.frozen 0
    by_cases hlt : k < nw.toNat
    · have hidx : 12 + 4 * k + 3 < s.size := by have := H5.out; omega
      have hwa : IntKind.i64.wrap (4 * (k : Int)) = 4 * (k : Int) := IntWalk.i64_in _ (by omega)
      have hwb : IntKind.i64.wrap (12 + 4 * (k : Int)) = 12 + 4 * (k : Int) := IntWalk.i64_in _ (by omega)
      have HS : Hid (wordsL ((s.data.toList.drop 12).take (4 * (k + 1))) = wordsL ((s.data.toList.drop 12).take (4 * k)) ++ [word4 (s[12 + 4 * k]'(by omega)) (s[12 + 4 * k + 1]'(by omega)) (s[12 + 4 * k + 2]'(by omega)) (s[12 + 4 * k + 3]'hidx)]) := by
        have hl : s.data.toList.length = s.size := rfl
        have h := wordsL_step (s.data.toList.drop 12) k (by rw [List.length_drop]; have := H5.out; omega)
        simp only [List.getElem_drop] at h
        exact h
      go_wp2_with fail
      go_region_law ((first
        | (refine step_append_new rfl rfl _ _ 23 rfl (w2.heap.size + 1) (.int .u32 0) 1 4 Tryd.underlying23 info_u32 rfl (by decide) _ k _ rfl hown 1 rfl rfl (by simp [Value.oneCell']) (by omega) (by omega) (by omega) (by decide) ?_; intro g1 c1 w3 hown1 hb1 hk1; have hM3 := hM.keep hk1 hown (by decide); have hR3 := hR.keep hk1 hown (by decide); have hm0 := hM3.cell 0; have hmf := hM3.frozen 0)
        | (refine step_call rfl 65 #[.string s, .int .i64 (12 + 4 * (k : Int))] _ (by as_aux_lemma => kernel_rfl) (ref_word s _ (12 + 4 * k) (by omega) _ hidx (by omega)) ?_; rintro e w1 ⟨rfl, hbw⟩; replace hown := own_below (w := wr.drew) hown rfl hbw; replace hbel := (hbel.drew).trans (hbw.mono (show w.heap.size ≤ wr.drew.heap.size from Nat.le_of_lt hR.lt)); replace hM := (hM.drew).below hbw (show w2.heap.size < wr.drew.heap.size from hwr); replace hR := (hR.drew).below hbw (show w.heap.size < wr.drew.heap.size from hR.lt);  have hwr1 := hM.lt; clear hbw hm0 hm1 hmf hkc; have hm0 := hM.cell 0; have hmf := hM.frozen 0; refine ⟨_, rfl, ?_⟩)))
      all_goals
        have hown2 := ownsRow_setCell_below (a := ⟨w2.heap.size, 0, none⟩) hown1 (Nat.lt_succ_self _) (.slice (some ⟨g1, 0, none⟩) (k + 1) c1)
        have hM4 := hM3.set 0 (.slice (some ⟨g1, 0, none⟩) (k + 1) c1)
        have hR4 := hR3.far (p := ⟨w2.heap.size, 0, none⟩) (by simp; omega) (.slice (some ⟨g1, 0, none⟩) (k + 1) c1)
        have hbel4 := (hbel.trans (hb1.mono (by omega))).setCell (p := ⟨w2.heap.size, 0, none⟩) (Nat.le_of_lt hs2) (.slice (some ⟨g1, 0, none⟩) (k + 1) c1)
        clear hown hM hR hbel hM3 hR3 hown1 hb1 hk1 hm0 hmf
        go_wp2_with fail
        go_roundw
        case rel =>
          refine ⟨k + 1, _, hlt, by go_num, hM4, hR4, ?_, hbel4⟩
          rw [HS.out, List.map_append]
          exact hown2
        case measure => simp [intOf]; omega
    · obtain rfl : k = nw.toNat := by omega
      have hr0 := hR.frozen 0
      have hr1 := hR.frozen 1
      have hc0 := hR.cell 0
      have hc1 := hR.cell 1
      have hlR := hR.lt
      have hneR : w.heap.size ≠ w2.heap.size := by omega
      go_wp2_with fail
      obtain ⟨c0, c1⟩ := two_cells (.slice A nw.toNat c) (.int .i64 dw.toNat) (hc0.trans rfl) (hc1.trans rfl)
      have hown2 := ownsRow_setCell_below (a := ⟨w.heap.size, 1, none⟩) (ownsRow_setCell_below (a := ⟨w.heap.size, 0, none⟩) hown (show w.heap.size < w2.heap.size + 1 by omega) (.slice A nw.toNat c)) (show w.heap.size < w2.heap.size + 1 by omega) (.int .i64 dw.toNat)
      have hbel2 := (hbel.setCell (p := ⟨w.heap.size, 0, none⟩) (Nat.le_refl _) (.slice A nw.toNat c)).setCell (p := ⟨w.heap.size, 1, none⟩) (Nat.le_refl _) (.int .i64 dw.toNat)
      clear hM hR hown hbel hm0 hm1 hmf hc0 hc1 hr0 hr1
      refine bodyPost_ret (by simp [results, Tryd.results59, go_sem, c0, c1]; try rfl) rfl ?_
      have hall : wordsL ((s.data.toList.drop 12).take (4 * nw.toNat)) = code := by
        rw [List.take_of_length_le (by rw [List.length_drop]; have := H5.out; have hl : s.data.toList.length = s.size := rfl; omega)]
        exact HC.out
      have hlen : code.length = nw.toNat := by
        have h := hown2.1
        rw [hall] at h
        simpa using h
      rw [hall] at hown2
      rw [← HD.out, hlen]
      exact ⟨⟨_, rfl, own_base hown2 (by omega)⟩, hbel2⟩

set_option maxHeartbeats 800000 in
theorem refRead_bad1 (s : ByteArray) (w : World) (h : s.size < 12 ∨ (12 ≤ s.size ∧ s.data.toList.take 4 ≠ [83, 69, 69, 68])) (hm : s.size ≤ 1000000000000) :
    Calls Tryd.prog 59 #[.string s] w fun e W' => e = .returned (.tuple #[.agg #[.slice none 0 0, .int .i64 0], .int .i64 7]) ∧ Below w.heap.size w W' := by
  rcases h with h | ⟨h1, h2⟩
  · have hlt : (s.size : Int) < 12 := by omega
    go_enter Tryd.func59, Tryd.ntmps59
    go_wp2_with fail
    refine bodyPost_ret (by simp [results, Tryd.results59, go_sem]; try rfl) rfl ?_
    exact ⟨rfl, (Below.refl _ w).alloc (Nat.le_refl _) _⟩
  · have hlt : ¬ (s.size : Int) < 12 := by omega
    have hm4 := take4 s.data.toList (show 4 ≤ s.size by omega)
    have i0 : 0 < s.size := by omega
    have i1 : 1 < s.size := by omega
    have i2 : 2 < s.size := by omega
    have i3 : 3 < s.size := by omega
    have key : s[0]'i0 = 83 → s[1]'i1 = 69 → s[2]'i2 = 69 → s[3]'i3 = 68 → False := by
      intro a b c d
      refine h2 (hm4.trans ?_)
      rw [show s.data.toList[0] = 83 from a, show s.data.toList[1] = 69 from b, show s.data.toList[2] = 69 from c, show s.data.toList[3] = 68 from d]
    have hb : ∀ (u v : UInt8), ((u.toNat : Int) != v.toNat) = !(decide (u = v)) := by
      intro u v
      by_cases e : u = v
      · subst e; simp
      · have : u.toNat ≠ v.toNat := fun h => e (UInt8.toNat_inj.1 h)
        rw [decide_eq_false e]
        simp
        omega
    have q : ((((s[0]'i0).toNat : Int) != 83) = true) ∨ ((((s[0]'i0).toNat : Int) != 83) = false ∧ (((s[1]'i1).toNat : Int) != 69) = true) ∨ ((((s[0]'i0).toNat : Int) != 83) = false ∧ (((s[1]'i1).toNat : Int) != 69) = false ∧ (((s[2]'i2).toNat : Int) != 69) = true) ∨
        ((((s[0]'i0).toNat : Int) != 83) = false ∧ (((s[1]'i1).toNat : Int) != 69) = false ∧ (((s[2]'i2).toNat : Int) != 69) = false ∧ (((s[3]'i3).toNat : Int) != 68) = true) := by
      rw [show (((s[0]'i0).toNat : Int) != 83) = !(decide (s[0]'i0 = 83)) from hb _ 83, show (((s[1]'i1).toNat : Int) != 69) = !(decide (s[1]'i1 = 69)) from hb _ 69, show (((s[2]'i2).toNat : Int) != 69) = !(decide (s[2]'i2 = 69)) from hb _ 69, show (((s[3]'i3).toNat : Int) != 68) = !(decide (s[3]'i3 = 68)) from hb _ 68]
      by_cases e0 : s[0]'i0 = 83
      · by_cases e1 : s[1]'i1 = 69
        · by_cases e2 : s[2]'i2 = 69
          · by_cases e3 : s[3]'i3 = 68
            · exact (key e0 e1 e2 e3).elim
            · simp [e0, e1, e2, e3]
          · simp [e0, e1, e2]
        · simp [e0, e1]
      · simp [e0]
    clear key h2 hm4 hb
    rcases q with n0 | ⟨n0, n1⟩ | ⟨n0, n1, n2⟩ | ⟨n0, n1, n2, n3⟩
    all_goals
      go_enter Tryd.func59, Tryd.ntmps59
      go_wp2_with fail
      refine bodyPost_ret (by simp [results, Tryd.results59, go_sem]; try rfl) rfl ?_
      exact ⟨rfl, (Below.refl _ w).alloc (Nat.le_refl _) _⟩

set_option maxHeartbeats 800000 in
theorem refRead_bad2 (s : ByteArray) (nw dw : UInt32) (w : World) (h12 : 12 ≤ s.size) (hm : s.size ≤ 1000000000000) (h2 : s.data.toList.take 4 = [83, 69, 69, 68]) (hnd : wordsL ((s.data.toList.drop 4).take 8) = [nw, dw])
    (h : 16384 < nw.toNat ∨ (nw.toNat ≤ 16384 ∧ 32768 < dw.toNat) ∨ (nw.toNat ≤ 16384 ∧ dw.toNat ≤ 32768 ∧ s.size ≠ 12 + 4 * nw.toNat)) :
    Calls Tryd.prog 59 #[.string s] w fun e W' => e = .returned (.tuple #[.agg #[.slice none 0 0, .int .i64 0], .int .i64 7]) ∧ Below w.heap.size w W' := by
  have h8 : 12 ≤ s.data.toList.length := h12
  rw [take8 _ 4 h8] at hnd
  have HND : Hid ([word4 (s[4]'(Nat.lt_of_lt_of_le (by decide : 4 < 12) h12)) (s[5]'(Nat.lt_of_lt_of_le (by decide : 5 < 12) h12)) (s[6]'(Nat.lt_of_lt_of_le (by decide : 6 < 12) h12)) (s[7]'(Nat.lt_of_lt_of_le (by decide : 7 < 12) h12)), word4 (s[8]'(Nat.lt_of_lt_of_le (by decide : 8 < 12) h12)) (s[9]'(Nat.lt_of_lt_of_le (by decide : 9 < 12) h12)) (s[10]'(Nat.lt_of_lt_of_le (by decide : 10 < 12) h12)) (s[11]'(Nat.lt_of_lt_of_le (by decide : 11 < 12) h12))] = [nw, dw]) := hnd
  have hm4 := take4 s.data.toList (by omega)
  rw [h2] at hm4
  injection hm4 with m0 hm4
  injection hm4 with m1 hm4
  injection hm4 with m2 hm4
  injection hm4 with m3 _
  have i0 : 0 < s.size := Nat.lt_of_lt_of_le (by decide) h12
  have i1 : 1 < s.size := Nat.lt_of_lt_of_le (by decide) h12
  have i2 : 2 < s.size := Nat.lt_of_lt_of_le (by decide) h12
  have i3 : 3 < s.size := Nat.lt_of_lt_of_le (by decide) h12
  have n0 : (((s[0]'i0).toNat : Int) != 83) = false := by rw [show s[0]'i0 = 83 from m0.symm]; rfl
  have n1 : (((s[1]'i1).toNat : Int) != 69) = false := by rw [show s[1]'i1 = 69 from m1.symm]; rfl
  have n2 : (((s[2]'i2).toNat : Int) != 69) = false := by rw [show s[2]'i2 = 69 from m2.symm]; rfl
  have n3 : (((s[3]'i3).toNat : Int) != 68) = false := by rw [show s[3]'i3 = 68 from m3.symm]; rfl
  have hz1 : ¬ (s.size : Int) < 12 := by omega
  have hz : 16384 < (nw.toNat : Int) ∨ (¬ 16384 < (nw.toNat : Int) ∧ 32768 < (dw.toNat : Int)) ∨ (¬ 16384 < (nw.toNat : Int) ∧ ¬ 32768 < (dw.toNat : Int) ∧ ((s.size : Int) != 12 + 4 * (nw.toNat : Int)) = true) := by
    rcases h with h | ⟨h, h'⟩ | ⟨h, h', h''⟩
    · exact .inl (by omega)
    · exact .inr (.inl ⟨by omega, by omega⟩)
    · exact .inr (.inr ⟨by omega, by omega, by rw [bne_iff_ne]; omega⟩)
  clear h h2 m0 m1 m2 m3 h8 hnd
  go_enter Tryd.func59, Tryd.ntmps59
  go_wp2_with fail
  refine (ref_word s 4 4 rfl _ (by omega) (by omega)).mono ?_
  rintro e w1 ⟨he, hb1⟩
  obtain rfl : e = .returned (.int .u32 nw.toNat) := he.trans (by rw [← (List.cons.inj HND.out).1])
  clear he
  go_wp2_with fail
  refine (ref_word s 8 8 rfl _ (by omega) (by omega)).mono ?_
  rintro e w2 ⟨he, hb2⟩
  obtain rfl : e = .returned (.int .u32 dw.toNat) := he.trans (by rw [← (List.cons.inj (List.cons.inj HND.out).2).1])
  clear he
  have hBlk0 : Blk w2 w.heap.size 25 #[.slice none 0 0, .int .i64 0] := ((Blk.new w _ _).below hb1 (by simp)).below hb2 (by have := hb1.size; simp at this; omega)
  have hB2 : Below w.heap.size w w2 := (below_new hb1).trans (hb2.mono (by have := hb1.size; simp at this; omega))
  have hc0 := hBlk0.cell 0
  have hc1 := hBlk0.cell 1
  have hr0 := hBlk0.frozen 0
  have hr1 := hBlk0.frozen 1
  clear hb1 hb2
  obtain ⟨c0, c1⟩ := two_cells (.slice none 0 0) (.int .i64 0) (hc0.trans rfl) (hc1.trans rfl)
  have hbel2 := (hB2.setCell (p := ⟨w.heap.size, 0, none⟩) (Nat.le_refl _) (.slice none 0 0)).setCell (p := ⟨w.heap.size, 1, none⟩) (Nat.le_refl _) (.int .i64 0)
  rcases hz with q1 | ⟨q1, q2⟩ | ⟨q1, q2, q3⟩
  all_goals
    go_wp2_with fail
    refine bodyPost_ret (by simp [results, Tryd.results59, go_sem, c0, c1]; try rfl) rfl ?_
    exact ⟨rfl, hbel2⟩

theorem refRead_bad (s : ByteArray) (w : World) (hm : s.size ≤ 1000000000000) (h : readI s.data.toList = none) :
    Calls Tryd.prog 59 #[.string s] w fun e W' => e = .returned (.tuple #[.agg #[.slice none 0 0, .int .i64 0], .int .i64 7]) ∧ Below w.heap.size w W' := by
  have hl : s.data.toList.length = s.size := rfl
  unfold readI at h
  rw [hl] at h
  by_cases h1 : s.size < 12
  · exact refRead_bad1 s w (.inl h1) hm
  rw [if_neg h1] at h
  by_cases h2 : s.data.toList.take 4 ≠ [83, 69, 69, 68]
  · exact refRead_bad1 s w (.inr ⟨by omega, h2⟩) hm
  rw [if_neg h2] at h
  have h8 : 4 + 8 ≤ s.data.toList.length := by omega
  obtain ⟨nw, dw, hnd⟩ : ∃ nw dw, wordsL ((s.data.toList.drop 4).take 8) = [nw, dw] := by
    rw [take8 _ 4 h8]; exact ⟨_, _, rfl⟩
  refine refRead_bad2 s nw dw w (by omega) hm (Decidable.of_not_not h2) hnd ?_
  by_cases h3 : 16384 < nw.toNat
  · exact .inl h3
  by_cases h4 : 32768 < dw.toNat
  · exact .inr (.inl ⟨by omega, h4⟩)
  refine .inr (.inr ⟨by omega, by omega, fun h5 => ?_⟩)
  rw [if_neg (show ¬ 65548 < s.size by omega), hnd] at h
  dsimp only at h
  rw [if_neg h4, if_neg (show ¬ s.size ≠ 12 + 4 * nw.toNat by omega)] at h
  cases h

end Go.Proofs.YthfdjfgmgoafnaaDoor
