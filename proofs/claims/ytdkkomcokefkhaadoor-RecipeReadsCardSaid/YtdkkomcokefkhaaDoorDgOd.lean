/- Layer 3: the document's digest of bytes, walked. -/
import Derived.Test.YtdkkomcokefkhaaDoorDgOc
import Derived.Test.YtdkkomcokefkhaaDoorRefD
namespace Go.Proofs.YtdkkomcokefkhaaDoor
open Go.RowKit
attribute [local go_sem ↓] Go.wp_at_zero Go.wp_at_succ

/-- What the walk of the document's digest holds: the result's box, the state's, the words. -/
structure Or (w : World) (g : Nat) (A : Option Addr) (xs : List UInt32) (f : Nat → UInt32) (W : World) : Prop where
  z : Blk W w.heap.size 24 #[.int .u32 0, .int .u32 0, .int .u32 0, .int .u32 0]
  st : St W g f
  sl : Sl W g A xs.length (xs.map wv)
  lt : w.heap.size < g
  bel : Below w.heap.size w W
section
variable {w W W' : World} {g : Nat} {A : Option Addr} {xs : List UInt32} {f : Nat → UInt32}
theorem Or.below (h : Or w g A xs f W) (hb : Below W.heap.size W W') : Or w g A xs f W' := ⟨h.z.below hb h.z.lt, h.st.below hb h.st.lt, h.sl.below (hb.mono (Nat.le_of_lt h.st.lt)), h.lt, h.bel.trans (hb.mono h.bel.size)⟩
theorem Or.drew (h : Or w g A xs f W) : Or w g A xs f W.drew := h.below (Below.refl _ W).drew
theorem Or.all (h : Or w g A xs f W) : (W.cell? ⟨g, 0, none⟩ = some (.int .u32 (f 0).toNat) ∧ W.cell? ⟨g, 1, none⟩ = some (.int .u32 (f 1).toNat) ∧ W.cell? ⟨g, 2, none⟩ = some (.int .u32 (f 2).toNat) ∧ W.cell? ⟨g, 3, none⟩ = some (.int .u32 (f 3).toNat) ∧ W.cell? ⟨g, 4, none⟩ = some (.int .u32 (f 4).toNat) ∧ W.cell? ⟨g, 5, none⟩ = some (.int .u32 (f 5).toNat) ∧ W.cell? ⟨g, 6, none⟩ = some (.int .u32 (f 6).toNat) ∧ W.cell? ⟨g, 7, none⟩ = some (.int .u32 (f 7).toNat)) ∧ W.frozen? ⟨g, 0, none⟩ = false ∧ W.frozen? ⟨g, 1, none⟩ = false ∧ W.frozen? ⟨g, 2, none⟩ = false ∧ W.frozen? ⟨g, 3, none⟩ = false ∧ W.frozen? ⟨g, 4, none⟩ = false ∧ W.frozen? ⟨g, 5, none⟩ = false ∧ W.frozen? ⟨g, 6, none⟩ = false ∧ W.frozen? ⟨g, 7, none⟩ = false :=
  ⟨⟨h.st.cell 0 (by decide), h.st.cell 1 (by decide), h.st.cell 2 (by decide), h.st.cell 3 (by decide), h.st.cell 4 (by decide), h.st.cell 5 (by decide), h.st.cell 6 (by decide), h.st.cell 7 (by decide)⟩, h.st.frozen 0, h.st.frozen 1, h.st.frozen 2, h.st.frozen 3, h.st.frozen 4, h.st.frozen 5, h.st.frozen 6, h.st.frozen 7⟩
theorem Or.fill (h : Or w g A xs f W) (R : Nat → UInt32) : ∃ W8, W8 = ((((((((W.setCell ⟨g, 0, none⟩ (.int .u32 (R 0).toNat)).setCell ⟨g, 1, none⟩ (.int .u32 (R 1).toNat)).setCell ⟨g, 2, none⟩ (.int .u32 (R 2).toNat)).setCell ⟨g, 3, none⟩ (.int .u32 (R 3).toNat)).setCell ⟨g, 4, none⟩ (.int .u32 (R 4).toNat)).setCell ⟨g, 5, none⟩ (.int .u32 (R 5).toNat)).setCell ⟨g, 6, none⟩ (.int .u32 (R 6).toNat)).setCell ⟨g, 7, none⟩ (.int .u32 (R 7).toNat)) ∧ Or w g A xs R W8 :=
  ⟨_, rfl, ((((((((h.z.far (p := ⟨g, 0, none⟩) (Nat.ne_of_lt h.lt) _).far (p := ⟨g, 1, none⟩) (Nat.ne_of_lt h.lt) _).far (p := ⟨g, 2, none⟩) (Nat.ne_of_lt h.lt) _).far (p := ⟨g, 3, none⟩) (Nat.ne_of_lt h.lt) _).far (p := ⟨g, 4, none⟩) (Nat.ne_of_lt h.lt) _).far (p := ⟨g, 5, none⟩) (Nat.ne_of_lt h.lt) _).far (p := ⟨g, 6, none⟩) (Nat.ne_of_lt h.lt) _).far (p := ⟨g, 7, none⟩) (Nat.ne_of_lt h.lt) _), Blk.fill h.st (wv (R 0)) (wv (R 1)) (wv (R 2)) (wv (R 3)) (wv (R 4)) (wv (R 5)) (wv (R 6)) (wv (R 7)), h.sl.below (((((((((Below.refl g W).setCell (p := ⟨g, 0, none⟩) (Nat.le_refl g) _).setCell (p := ⟨g, 1, none⟩) (Nat.le_refl g) _).setCell (p := ⟨g, 2, none⟩) (Nat.le_refl g) _).setCell (p := ⟨g, 3, none⟩) (Nat.le_refl g) _).setCell (p := ⟨g, 4, none⟩) (Nat.le_refl g) _).setCell (p := ⟨g, 5, none⟩) (Nat.le_refl g) _).setCell (p := ⟨g, 6, none⟩) (Nat.le_refl g) _).setCell (p := ⟨g, 7, none⟩) (Nat.le_refl g) _), h.lt, ((((((((h.bel.setCell (p := ⟨g, 0, none⟩) (Nat.le_of_lt h.lt) _).setCell (p := ⟨g, 1, none⟩) (Nat.le_of_lt h.lt) _).setCell (p := ⟨g, 2, none⟩) (Nat.le_of_lt h.lt) _).setCell (p := ⟨g, 3, none⟩) (Nat.le_of_lt h.lt) _).setCell (p := ⟨g, 4, none⟩) (Nat.le_of_lt h.lt) _).setCell (p := ⟨g, 5, none⟩) (Nat.le_of_lt h.lt) _).setCell (p := ⟨g, 6, none⟩) (Nat.le_of_lt h.lt) _).setCell (p := ⟨g, 7, none⟩) (Nat.le_of_lt h.lt) _)⟩
end

theorem Sl.cellAt {w : World} {B n : Nat} {b off : Nat} {xs : List Value} (h : Sl w B (some ⟨b, off, none⟩) n xs) {j : Nat} {u : Value} (hj : xs[j]? = some u) : w.cell? ⟨b, off + j, none⟩ = some u := by
  have hl := (List.getElem?_eq_some_iff.1 hj).1
  obtain ⟨b', off', e, _, hc⟩ := h.2 (by have := h.1; omega)
  simp only [Option.some.injEq, Addr.mk.injEq] at e
  obtain ⟨rfl, rfl, -⟩ := e
  exact hc j u hj
theorem below_tail' {a w w' : World} (h : Below a.heap.size a w) (hb : Below w.heap.size w w') : Below a.heap.size a w' := h.trans (hb.mono h.size)
set_option maxHeartbeats 4000000 in
theorem ref_Of (s : ByteArray) (w : World) (hs : s.size ≤ 1000000000) :
    Calls Tryd.prog 28 #[.string s] w fun e w' => e = .returned (.agg (dgv (ofL s.data.toList))) ∧ Below w.heap.size w w' := by
  have hZ0 := Blk.new w 24 #[.int .u32 0, .int .u32 0, .int .u32 0, .int .u32 0]
  have bel0 := (Below.refl _ w).alloc (Nat.le_refl _) (.cells #[.int .u32 0, .int .u32 0, .int .u32 0, .int .u32 0] 24)
  have hc0 : ¬ 9223372036854775807 < s.size + (⟨#[128]⟩ : ByteArray).size := by have : (⟨#[128]⟩ : ByteArray).size = 1 := rfl; omega
  obtain ⟨Z, hZ⟩ : ∃ Z, padZ s.size = Z := ⟨_, rfl⟩
  have hz0 := padZ_lt s.size
  have hzm : ∀ z, z ≤ padZ s.size → ((s.size : Int) + 1 + z) % 16 = 8 → z = padZ s.size := by
    intro z hz h
    unfold padZ at hz ⊢
    omega
  have hze : ((s.size : Int) + 1 + padZ s.size) % 16 = 8 := by
    unfold padZ
    omega
  rw [hZ] at hz0 hzm hze
  have HZ := Lib.hid hZ
  have HZM := Lib.hid hzm
  clear hZ hzm
  go_enter Tryd.func28, Tryd.ntmps28
  go_wp2_with fail
  go_loop [0] (fun v => ∃ (z : Nat) (t : ByteArray), z ≤ Z ∧ v = .string t ∧ t.size = s.size + 1 + z ∧ Hid (t.data.toList = s.data.toList ++ (128 :: List.replicate z 0))) (fun v => match v with | .string t => s.size + 1 + Z - t.size | _ => 0)
  case atStart => exact ⟨0, _, Nat.zero_le _, rfl, by rw [ByteArray.size_append]; rfl, by unfold Hid; rw [ba_append]; rfl⟩
  case round =>
    obtain ⟨z, t, hz, rfl, hts, HT⟩ := hrel
    have htI : (t.size : Int) = (s.size : Int) + 1 + z := by omega
    by_cases hlz : z = Z
    · subst hlz
      have hq8 : (((s.size : Int) + 1 + z) % 16 == 8) = true := by rw [beq_iff_eq]; exact hze
      have HTS := Lib.hid hts
      have hWl := wordsL_length t.data.toList (t.size / 4) (by have e1 : t.data.toList.length = t.size := rfl; omega)
      have hWn : (wordsL t.data.toList).length ≤ 1000000000 := by omega
      have kw : ∀ W : World, Calls Tryd.prog 32 #[.string t] W fun e w' => (∃ v, e = .returned (.tuple #[v, .int .i64 0]) ∧ w'.ownsRow W.heap.size 22 1 v (wordsL t.data.toList).length ((wordsL t.data.toList).map wv)) ∧ Below W.heap.size W w' := fun W => ref_Words t W (by omega) (by omega)
      have hxl : wordsL (padL s.data.toList) = wordsL t.data.toList ++ [UInt32.ofNat s.size, UInt32.ofNat (s.size / 4294967296)] := by
        have e1 : s.data.toList.length = s.size := rfl
        have e2 : padL s.data.toList = t.data.toList ++ lenB s.size := by
          rw [HT.out]
          unfold padL
          rw [e1, HZ.out, List.append_assoc, List.cons_append]
        rw [e2, wordsL_append _ _ (t.size / 4) (by have e3 : t.data.toList.length = t.size := rfl; omega)]
        unfold lenB
        rw [words_le]
      have KW := Lib.hid kw
      clear hts kw hWl
      obtain ⟨xs, hxs⟩ : ∃ xs, wordsL t.data.toList = xs := ⟨_, rfl⟩
      rw [hxs] at hWn KW hxl
      obtain ⟨x0, hx0⟩ : ∃ x, UInt32.ofNat s.size = x := ⟨_, rfl⟩
      obtain ⟨x1, hx1⟩ : ∃ x, UInt32.ofNat (s.size / 4294967296) = x := ⟨_, rfl⟩
      have eA : IntKind.u32.wrap (s.size : Int) = x0.toNat := by rw [← hx0, UInt32.toNat_ofNat', IntKind.wrap_u32]; omega
      have eB : IntKind.u32.wrap ((s.size : Int) / 4294967296) = x1.toNat := by rw [← hx1, UInt32.toNat_ofNat', IntKind.wrap_u32]; omega
      rw [hx0, hx1] at hxl
      have HXL := Lib.hid hxl
      clear hx0 hx1 hxs hxl
      go_wp2_with fail
      refine (KW.out _).mono ?_
      rintro e w1 ⟨⟨v, rfl, hown⟩, hb1⟩
      have hZ1 := hZ0.below hb1 (by simp)
      have bel1 := below_tail' bel0 hb1
      have hsz1 := hb1.size
      clear hb1 hZ0 bel0
      go_wp2_with (at_builtin; refine wpList_append_new rfl _ _ 46 rfl _ (.int .u32 0) 1 4 Tryd.underlying46 info_u32 rfl (by decide) _ _ _ rfl hown 2 rfl rfl (by simp [Value.oneCell']) (by omega) (by omega) (by omega) ?_; intro v1 w2 hown1 hb2 hk2)
      obtain ⟨A, c, rfl, hA1, hA2, hSl⟩ := Sl.of_own hown1
      obtain ⟨Y, hY⟩ : ∃ Y, xs ++ [x0, x1] = Y := ⟨_, rfl⟩
      have hYl : xs.length + 2 = Y.length := by rw [← hY]; simp
      have hYm : xs.map wv ++ [.int .u32 x0.toNat, .int .u32 x1.toNat] = Y.map wv := by rw [← hY, List.map_append]; rfl
      have hYw : wordsL (padL s.data.toList) = Y := by rw [HXL.out, hY]
      rw [hYm, hYl] at hSl
      simp only [hYl]
      have hp16 := padL_sixteen s.data.toList
      have hYq : Y.length = (padL s.data.toList).length / 4 := by
        rw [← hYw]
        exact wordsL_length _ _ (by omega)
      obtain ⟨q, hq⟩ : ∃ q, (padL s.data.toList).length / 16 = q := ⟨_, rfl⟩
      have hYq4 : Y.length = 4 * q := by omega
      have HYA : Hid (∀ j (h : j < Y.length), Y[j] = leAt (padL s.data.toList) j) := by
        intro j h
        have h9 := wordsL_at (padL s.data.toList) (4 * q) j (by omega) (by omega)
        rw [hYw, List.getD_eq_getElem?_getD, List.getElem?_eq_getElem h] at h9
        exact h9
      have hYn : Y.length ≤ 1000000002 := by omega
      have HO : Hid (ofL s.data.toList = spg (leAt (padL s.data.toList)) q) := by unfold Hid ofL; rw [hq]
      have hm0 : Or w w2.heap.size A Y one8 (w2.alloc (.cells #[.int .u32 1, .int .u32 0, .int .u32 0, .int .u32 0, .int .u32 0, .int .u32 0, .int .u32 0, .int .u32 0] 56)) := by
        refine ⟨(hZ1.below hb2 (by simp)).alloc _, ?_, hSl.below ((Below.refl _ w2).alloc (Nat.le_refl _) _), ?_, ?_⟩
        · have h := Blk.new w2 56 (stv one8)
          rw [one8_vals] at h
          unfold St
          rw [one8_vals]
          exact h
        · have := (hZ1.below hb2 (by simp)).lt; exact this
        · have b2 := bel1.trans (hb2.mono (by simp))
          exact b2.alloc b2.size _
      have hYpos : 0 < Y.length := by omega
      have HYL := Lib.hid hYq4
      clear hYl hYm hYw hYq hown1 hb2 hk2 hZ1 bel1 hp16 hY HXL hq hYq4
      generalize w2.heap.size = g at hm0 hSl ⊢
      generalize w1.heap.size = gl
      obtain ⟨M, hYI⟩ : ∃ M : Int, (Y.length : Int) = M := ⟨_, rfl⟩
      have hMb : M ≤ 1000000002 := by omega
      have HM : Hid (M = 4 * (q : Int)) := by unfold Hid; have := HYL.out; omega
      have hqb : q ≤ 300000000 := by have := HYL.out; omega
      obtain ⟨b, off, rfl, hbg, -⟩ := hSl.2 hYpos
      clear hSl hA1 hA2 hWn
      generalize World.alloc _ _ = W0 at hm0 ⊢
      go_loopw [7] (fun iv wr => ∃ j : Nat, j ≤ q ∧ iv = .int .i64 (4 * (j : Int)) ∧ Or w g (some ⟨b, off, none⟩) Y (spg (leAt (padL s.data.toList)) j) wr) (fun iv _ => 4 * q - (intOf iv).toNat)
      case atStart => exact ⟨0, Nat.zero_le _, rfl, hm0⟩
      case round =>
        clear hm0
        obtain ⟨j, hj, rfl, hm⟩ := hrel
        by_cases hlj : j < q
        · obtain ⟨F, hF⟩ : ∃ F, spg (leAt (padL s.data.toList)) j = F := ⟨_, rfl⟩
          have l0 : 4 * j < Y.length := by have := HYL.out; omega
          have l1 : 4 * j + 1 < Y.length := by have := HYL.out; omega
          have l2 : 4 * j + 2 < Y.length := by have := HYL.out; omega
          have l3 : 4 * j + 3 < Y.length := by have := HYL.out; omega
          have hl0 := hm.sl.cellAt (List.getElem?_map .. |>.trans (by rw [List.getElem?_eq_getElem l0]; rfl) : (Y.map wv)[4 * j]? = some (wv Y[4 * j]))
          have hl1 := hm.sl.cellAt (List.getElem?_map .. |>.trans (by rw [List.getElem?_eq_getElem l1]; rfl) : (Y.map wv)[4 * j + 1]? = some (wv Y[4 * j + 1]))
          have hl2 := hm.sl.cellAt (List.getElem?_map .. |>.trans (by rw [List.getElem?_eq_getElem l2]; rfl) : (Y.map wv)[4 * j + 2]? = some (wv Y[4 * j + 2]))
          have hl3 := hm.sl.cellAt (List.getElem?_map .. |>.trans (by rw [List.getElem?_eq_getElem l3]; rfl) : (Y.map wv)[4 * j + 3]? = some (wv Y[4 * j + 3]))
          obtain ⟨B, hB⟩ : ∃ B : Nat → UInt32, (fun i => leAt (padL s.data.toList) (4 * j + i)) = B := ⟨_, rfl⟩
          have b0 : Y[4 * j] = B 0 := by rw [HYA.out (4 * j) l0, ← hB]; rfl
          have b1 : Y[4 * j + 1] = B 1 := by rw [HYA.out (4 * j + 1) l1, ← hB]
          have b2 : Y[4 * j + 2] = B 2 := by rw [HYA.out (4 * j + 2) l2, ← hB]
          have b3 : Y[4 * j + 3] = B 3 := by rw [HYA.out (4 * j + 3) l3, ← hB]
          have hHB : ∀ W : World, Sl W g (some ⟨b, off, none⟩) Y.length (Y.map wv) → W.cell? ⟨b, off + 4 * j, none⟩ = some (.int .u32 (B 0).toNat) ∧ W.cell? ⟨b, off + (4 * j + 1), none⟩ = some (.int .u32 (B 1).toNat) ∧ W.cell? ⟨b, off + (4 * j + 2), none⟩ = some (.int .u32 (B 2).toNat) ∧ W.cell? ⟨b, off + (4 * j + 3), none⟩ = some (.int .u32 (B 3).toNat) := by
            intro W hS
            have k0 := hS.cellAt (List.getElem?_map .. |>.trans (by rw [List.getElem?_eq_getElem l0]; rfl) : (Y.map wv)[4 * j]? = some (wv Y[4 * j]))
            have k1 := hS.cellAt (List.getElem?_map .. |>.trans (by rw [List.getElem?_eq_getElem l1]; rfl) : (Y.map wv)[4 * j + 1]? = some (wv Y[4 * j + 1]))
            have k2 := hS.cellAt (List.getElem?_map .. |>.trans (by rw [List.getElem?_eq_getElem l2]; rfl) : (Y.map wv)[4 * j + 2]? = some (wv Y[4 * j + 2]))
            have k3 := hS.cellAt (List.getElem?_map .. |>.trans (by rw [List.getElem?_eq_getElem l3]; rfl) : (Y.map wv)[4 * j + 3]? = some (wv Y[4 * j + 3]))
            rw [b0] at k0
            rw [b1] at k1
            rw [b2] at k2
            rw [b3] at k3
            exact ⟨k0, k1, k2, k3⟩
          rw [b0] at hl0
          rw [b1] at hl1
          rw [b2] at hl2
          rw [b3] at hl3
          simp only [wv] at hl0 hl1 hl2 hl3
          obtain ⟨R, hR⟩ : ∃ R, absorb F B = R := ⟨_, rfl⟩
          have HR : Hid (spg (leAt (padL s.data.toList)) (j + 1) = R) := by
            unfold Hid
            rw [← hR, ← hB, ← hF]
            rfl
          have kt : ∀ W, Calls Tryd.prog 38 #[.agg #[.int .u32 (F 0).toNat, .int .u32 (F 1).toNat, .int .u32 (F 2).toNat, .int .u32 (F 3).toNat, .int .u32 (F 4).toNat, .int .u32 (F 5).toNat, .int .u32 (F 6).toNat, .int .u32 (F 7).toNat], .agg #[.int .u32 (B 0).toNat, .int .u32 (B 1).toNat, .int .u32 (B 2).toNat, .int .u32 (B 3).toNat]] W fun e W' => e = .returned (.agg #[.int .u32 (R 0).toNat, .int .u32 (R 1).toNat, .int .u32 (R 2).toNat, .int .u32 (R 3).toNat, .int .u32 (R 4).toNat, .int .u32 (R 5).toNat, .int .u32 (R 6).toNat, .int .u32 (R 7).toNat]) ∧ Below W.heap.size W W' := fun W => by
            have h9 := ref_take F B W
            rw [hR] at h9
            exact h9
          have KT := Lib.hid kt
          rw [hF] at hm
          have HL0 := Lib.hid (And.intro l0 (And.intro l1 (And.intro l2 l3)))
          have hltJ : 4 * (j : Int) < M := by have := HM.out; omega
          have j1 : 4 * (j : Int) + 1 < M := by have := HM.out; omega
          have j2 : 4 * (j : Int) + 2 < M := by have := HM.out; omega
          have j3 : 4 * (j : Int) + 3 < M := by have := HM.out; omega
          have p0 : 0 ≤ 4 * (j : Int) := by omega
          have p1 : 0 ≤ 4 * (j : Int) + 1 := by omega
          have p2 : 0 ≤ 4 * (j : Int) + 2 := by omega
          have p3 : 0 ≤ 4 * (j : Int) + 3 := by omega
          have w1 : IntKind.i64.wrap (4 * (j : Int) + 1) = 4 * (j : Int) + 1 := by rw [IntKind.wrap_i64]; omega
          have w2 : IntKind.i64.wrap (4 * (j : Int) + 2) = 4 * (j : Int) + 2 := by rw [IntKind.wrap_i64]; omega
          have w3 : IntKind.i64.wrap (4 * (j : Int) + 3) = 4 * (j : Int) + 3 := by rw [IntKind.wrap_i64]; omega
          have w4 : IntKind.i64.wrap (4 * (j : Int) + 4) = 4 * (j : Int) + 4 := by rw [IntKind.wrap_i64]; omega
          have ht : (4 * (j : Int)).toNat = 4 * j := by omega
          have ht1 : (4 * (j : Int) + 1).toNat = 4 * j + 1 := by omega
          have ht2 : (4 * (j : Int) + 2).toNat = 4 * j + 2 := by omega
          have ht3 : (4 * (j : Int) + 3).toNat = 4 * j + 3 := by omega
          clear kt hF hB hR b0 b1 b2 b3
          go_wp2_with fail
          obtain ⟨⟨c0, c1, c2, c3, c4, c5, c6, c7⟩, y0, y1, y2, y3, y4, y5, y6, y7⟩ := hm.all
          have sl0 : wr.drew.cell? ⟨b, off + 4 * j, none⟩ = some (.int .u32 (B 0).toNat) ∧ wr.drew.cell? ⟨b, off + (4 * j + 1), none⟩ = some (.int .u32 (B 1).toNat) ∧ wr.drew.cell? ⟨b, off + (4 * j + 2), none⟩ = some (.int .u32 (B 2).toNat) ∧ wr.drew.cell? ⟨b, off + (4 * j + 3), none⟩ = some (.int .u32 (B 3).toNat) := ⟨hl0, hl1, hl2, hl3⟩
          have HBY := Lib.hid (And.intro hl0 (And.intro hl1 (And.intro hl2 hl3)))
          refine wp_region_held_drew (S := (fun W => W.cell? ⟨b, off + 4 * j, none⟩ = some (.int .u32 (B 0).toNat) ∧ W.cell? ⟨b, off + (4 * j + 1), none⟩ = some (.int .u32 (B 1).toNat) ∧ W.cell? ⟨b, off + (4 * j + 2), none⟩ = some (.int .u32 (B 2).toNat) ∧ W.cell? ⟨b, off + (4 * j + 3), none⟩ = some (.int .u32 (B 3).toNat))) (by kernel_rfl) sl0 (fun hHeld => ?_)
          clear sl0 hl0 hl1 hl2 hl3
          refine wpAnyH_take (i := 1) (v := ?_) rfl (by kernel_rfl) (by kernel_rfl) (by kernel_rfl) (fun _ _ _ h => h) (Or.inl ⟨by kernel_rfl, ?_⟩) (by assumption) ?_
          rotate_left
          · intro w hSw; (try dsimp only at hSw); go_simp; (try with_reducible rfl)
          try simp only [Act.put, List.getElem_toArray, List.getElem_cons_succ, List.getElem_cons_zero, List.setIfInBounds_toArray, List.set_cons_zero, List.set_cons_succ]
          refine wpAnyH_take (i := 2) (v := ?_) rfl (by kernel_rfl) (by kernel_rfl) (by kernel_rfl) (fun _ _ _ h => h) (Or.inl ⟨by kernel_rfl, ?_⟩) (by assumption) ?_
          rotate_left
          · intro w hSw; (try dsimp only at hSw); go_simp; (try with_reducible rfl)
          try simp only [Act.put, List.getElem_toArray, List.getElem_cons_succ, List.getElem_cons_zero, List.setIfInBounds_toArray, List.set_cons_zero, List.set_cons_succ]
          refine wpAnyH_take (i := 3) (v := ?_) rfl (by kernel_rfl) (by kernel_rfl) (by kernel_rfl) (fun _ _ _ h => h) (Or.inl ⟨by kernel_rfl, ?_⟩) (by assumption) ?_
          rotate_left
          · intro w hSw; (try dsimp only at hSw); go_simp; (try with_reducible rfl)
          try simp only [Act.put, List.getElem_toArray, List.getElem_cons_succ, List.getElem_cons_zero, List.setIfInBounds_toArray, List.set_cons_zero, List.set_cons_succ]
          refine wpAnyH_take (i := 4) (v := ?_) rfl (by kernel_rfl) (by kernel_rfl) (by kernel_rfl) (fun _ _ _ h => h) (Or.inl ⟨by kernel_rfl, ?_⟩) (by assumption) ?_
          rotate_left
          · intro w hSw; (try dsimp only at hSw); go_simp; (try with_reducible rfl)
          try simp only [Act.put, List.getElem_toArray, List.getElem_cons_succ, List.getElem_cons_zero, List.setIfInBounds_toArray, List.set_cons_zero, List.set_cons_succ]
          refine wpAnyH_take (i := 5) (v := ?_) rfl (by kernel_rfl) (by kernel_rfl) (by kernel_rfl) (fun _ _ _ h => h) (Or.inl ⟨by kernel_rfl, ?_⟩) (by assumption) ?_
          rotate_left
          · intro w hSw; (try dsimp only at hSw); go_simp; (try with_reducible rfl)
          try simp only [Act.put, List.getElem_toArray, List.getElem_cons_succ, List.getElem_cons_zero, List.setIfInBounds_toArray, List.set_cons_zero, List.set_cons_succ]
          refine wpAnyH_take (i := 6) (v := ?_) rfl (by kernel_rfl) (by kernel_rfl) (by kernel_rfl) (fun _ _ _ h => h) (Or.inl ⟨by kernel_rfl, ?_⟩) (by assumption) ?_
          rotate_left
          · intro w hSw; (try dsimp only at hSw); go_simp; (try with_reducible rfl)
          try simp only [Act.put, List.getElem_toArray, List.getElem_cons_succ, List.getElem_cons_zero, List.setIfInBounds_toArray, List.set_cons_zero, List.set_cons_succ]
          refine wpAnyH_take (i := 7) (v := ?_) rfl (by kernel_rfl) (by kernel_rfl) (by kernel_rfl) (fun _ _ _ h => h) (Or.inl ⟨by kernel_rfl, ?_⟩) (by assumption) ?_
          rotate_left
          · intro w hSw; (try dsimp only at hSw); go_simp; (try with_reducible rfl)
          try simp only [Act.put, List.getElem_toArray, List.getElem_cons_succ, List.getElem_cons_zero, List.setIfInBounds_toArray, List.set_cons_zero, List.set_cons_succ]
          refine wpAnyH_take (i := 8) (v := ?_) rfl (by kernel_rfl) (by kernel_rfl) (by kernel_rfl) (fun _ _ _ h => h) (Or.inl ⟨by kernel_rfl, ?_⟩) (by assumption) ?_
          rotate_left
          · intro w hSw; (try dsimp only at hSw); go_simp; (try with_reducible rfl)
          try simp only [Act.put, List.getElem_toArray, List.getElem_cons_succ, List.getElem_cons_zero, List.setIfInBounds_toArray, List.set_cons_zero, List.set_cons_succ]
          refine wpAnyH_take (i := 9) (v := ?_) rfl (by kernel_rfl) (by kernel_rfl) (by kernel_rfl) (fun _ _ _ h => h) (Or.inl ⟨by kernel_rfl, ?_⟩) (by assumption) ?_
          rotate_left
          · intro w hSw; (try dsimp only at hSw); go_simp; (try with_reducible rfl)
          try simp only [Act.put, List.getElem_toArray, List.getElem_cons_succ, List.getElem_cons_zero, List.setIfInBounds_toArray, List.set_cons_zero, List.set_cons_succ]
          refine wpAnyH_take (i := 10) (v := ?_) rfl (by kernel_rfl) (by kernel_rfl) (by kernel_rfl) (fun _ _ _ h => h) (Or.inl ⟨by kernel_rfl, ?_⟩) (by assumption) ?_
          rotate_left
          · intro w hSw; (try dsimp only at hSw); go_simp; (try with_reducible rfl)
          try simp only [Act.put, List.getElem_toArray, List.getElem_cons_succ, List.getElem_cons_zero, List.setIfInBounds_toArray, List.set_cons_zero, List.set_cons_succ]
          refine wpAnyH_take (i := 11) (v := ?_) rfl (by kernel_rfl) (by kernel_rfl) (by kernel_rfl) (fun _ _ _ h => h) (Or.inl ⟨by kernel_rfl, ?_⟩) (by assumption) ?_
          rotate_left
          · intro w hSw; (try dsimp only at hSw); go_simp; (try with_reducible rfl)
          try simp only [Act.put, List.getElem_toArray, List.getElem_cons_succ, List.getElem_cons_zero, List.setIfInBounds_toArray, List.set_cons_zero, List.set_cons_succ]
          refine wpAnyH_take (i := 12) (v := ?_) rfl (by kernel_rfl) (by kernel_rfl) (by kernel_rfl) (fun _ _ _ h => h) (Or.inl ⟨by kernel_rfl, ?_⟩) (by assumption) ?_
          rotate_left
          · intro w hSw; (try dsimp only at hSw); go_simp; (try with_reducible rfl)
          try simp only [Act.put, List.getElem_toArray, List.getElem_cons_succ, List.getElem_cons_zero, List.setIfInBounds_toArray, List.set_cons_zero, List.set_cons_succ]
          refine wpAnyH_take (i := 13) (v := ?_) rfl (by kernel_rfl) (by kernel_rfl) (by kernel_rfl) (fun _ _ _ h => h) (Or.inl ⟨by kernel_rfl, ?_⟩) (by assumption) ?_
          rotate_left
          · intro w hSw; (try dsimp only at hSw); go_simp; (try with_reducible rfl)
          try simp only [Act.put, List.getElem_toArray, List.getElem_cons_succ, List.getElem_cons_zero, List.setIfInBounds_toArray, List.set_cons_zero, List.set_cons_succ]
          refine wpAnyH_take (i := 14) (v := ?_) rfl (by kernel_rfl) (by kernel_rfl) (by kernel_rfl) (fun _ _ _ h => h) (Or.inl ⟨by kernel_rfl, ?_⟩) (by assumption) ?_
          rotate_left
          · intro w hSw; (try dsimp only at hSw); go_simp; (try with_reducible rfl)
          try simp only [Act.put, List.getElem_toArray, List.getElem_cons_succ, List.getElem_cons_zero, List.setIfInBounds_toArray, List.set_cons_zero, List.set_cons_succ]
          refine wpAnyH_take (i := 15) (v := ?_) rfl (by kernel_rfl) (by kernel_rfl) (by kernel_rfl) (fun _ _ _ h => h) (Or.inl ⟨by kernel_rfl, ?_⟩) (by assumption) ?_
          rotate_left
          · intro w hSw; (try dsimp only at hSw); go_simp; (try with_reducible rfl)
          try simp only [Act.put, List.getElem_toArray, List.getElem_cons_succ, List.getElem_cons_zero, List.setIfInBounds_toArray, List.set_cons_zero, List.set_cons_succ]
          refine wpAnyH_take (i := 16) (v := ?_) rfl (by kernel_rfl) (by kernel_rfl) (by kernel_rfl) (fun _ _ _ h => h) (Or.inl ⟨by kernel_rfl, ?_⟩) (by assumption) ?_
          rotate_left
          · intro w hSw; (try dsimp only at hSw); go_simp; (try with_reducible rfl)
          try simp only [Act.put, List.getElem_toArray, List.getElem_cons_succ, List.getElem_cons_zero, List.setIfInBounds_toArray, List.set_cons_zero, List.set_cons_succ]
          refine wpAnyH_take (i := 17) (v := ?_) rfl (by kernel_rfl) (by kernel_rfl) (by kernel_rfl) (fun _ _ _ h => h) (Or.inl ⟨by kernel_rfl, ?_⟩) (by assumption) ?_
          rotate_left
          · intro w hSw; (try dsimp only at hSw); go_simp; (try with_reducible rfl)
          try simp only [Act.put, List.getElem_toArray, List.getElem_cons_succ, List.getElem_cons_zero, List.setIfInBounds_toArray, List.set_cons_zero, List.set_cons_succ]
          refine wpAnyH_take (i := 18) (v := ?_) rfl (by kernel_rfl) (by kernel_rfl) (by kernel_rfl) (fun _ _ _ h => h) (Or.inl ⟨by kernel_rfl, ?_⟩) (by assumption) ?_
          rotate_left
          · intro w hSw; (try dsimp only at hSw); go_simp; (try with_reducible rfl)
          try simp only [Act.put, List.getElem_toArray, List.getElem_cons_succ, List.getElem_cons_zero, List.setIfInBounds_toArray, List.set_cons_zero, List.set_cons_succ]
          refine wpAnyH_take (i := 19) (v := ?_) rfl (by kernel_rfl) (by kernel_rfl) (by kernel_rfl) (fun _ _ _ h => h) (Or.inl ⟨by kernel_rfl, ?_⟩) (by assumption) ?_
          rotate_left
          · intro w hSw; (try dsimp only at hSw); go_simp; (try with_reducible rfl)
          try simp only [Act.put, List.getElem_toArray, List.getElem_cons_succ, List.getElem_cons_zero, List.setIfInBounds_toArray, List.set_cons_zero, List.set_cons_succ]
          refine wpAnyH_take (i := 20) (v := ?_) rfl (by kernel_rfl) (by kernel_rfl) (by kernel_rfl) (fun _ _ _ h => h) (Or.inl ⟨by kernel_rfl, ?_⟩) (by assumption) ?_
          rotate_left
          · intro w hSw; (try dsimp only at hSw); go_simp; (try with_reducible rfl)
          try simp only [Act.put, List.getElem_toArray, List.getElem_cons_succ, List.getElem_cons_zero, List.setIfInBounds_toArray, List.set_cons_zero, List.set_cons_succ]
          refine wpAnyH_ready (rs := [0]) (by kernel_rfl) (by simp) ?_
          refine AllReadyH.cons rfl (fun K hK => ?_) AllReadyH.nil
          go_simp
          refine hK.out _ _ hHeld (fun hHeld => ?_)
          clear hK K
          try simp only [Act.put, List.getElem_toArray, List.getElem_cons_succ, List.getElem_cons_zero, List.setIfInBounds_toArray, List.set_cons_zero, List.set_cons_succ]
          refine wpAnyH_ready (rs := [21]) (by kernel_rfl) (by simp) ?_
          refine AllReadyH.cons rfl (fun K hK => ?_) AllReadyH.nil
          go_simp
          go_at_call 38
          refine (KT.out _).mono ?_
          rintro e w9 ⟨rfl, hb9⟩
          have hm9 := hm.drew.below hb9
          have sl9 : w9.cell? ⟨b, off + 4 * j, none⟩ = some (.int .u32 (B 0).toNat) ∧ w9.cell? ⟨b, off + (4 * j + 1), none⟩ = some (.int .u32 (B 1).toNat) ∧ w9.cell? ⟨b, off + (4 * j + 2), none⟩ = some (.int .u32 (B 2).toNat) ∧ w9.cell? ⟨b, off + (4 * j + 3), none⟩ = some (.int .u32 (B 3).toNat) := hHB w9 hm9.sl
          clear c0 c1 c2 c3 c4 c5 c6 c7 y0 y1 y2 y3 y4 y5 y6 y7
          obtain ⟨⟨d0, d1, d2, d3, d4, d5, d6, d7⟩, z0, z1, z2, z3, z4, z5, z6, z7⟩ := hm9.all
          refine hK.out _ _ sl9 (fun hHeld => ?_)
          clear hK K
          try simp only [Act.put, List.getElem_toArray, List.getElem_cons_succ, List.getElem_cons_zero, List.setIfInBounds_toArray, List.set_cons_zero, List.set_cons_succ]
          refine wpAnyH_ready (rs := [22]) (by kernel_rfl) (by simp) ?_
          refine AllReadyH.cons rfl (fun K hK => ?_) AllReadyH.nil
          go_simp
          obtain ⟨Wf, hWf, hm10⟩ := hm9.fill R
          rw [← hWf]
          refine hK.out _ _ (hHB Wf hm10.sl) (fun hHeld => ?_)
          clear hK K
          try simp only [Act.put, List.getElem_toArray, List.getElem_cons_succ, List.getElem_cons_zero, List.setIfInBounds_toArray, List.set_cons_zero, List.set_cons_succ]
          refine wpAnyH_done (by kernel_rfl) ?_ _
          clear d0 d1 d2 d3 d4 d5 d6 d7 z0 z1 z2 z3 z4 z5 z6 z7 hm9 hm hWf
          go_wp2_with fail
          go_roundw
          case rel => exact ⟨j + 1, hlj, by go_num, by rw [HR.out]; exact hm10⟩
          case measure => simp [intOf]; omega
        · obtain rfl : j = q := by omega
          have hltJ : ¬ 4 * (j : Int) < M := by have := HM.out; omega
          obtain ⟨R, hR⟩ : ∃ R, spg (leAt (padL s.data.toList)) j = R := ⟨_, rfl⟩
          have HO2 : Hid (ofL s.data.toList = R) := by unfold Hid; rw [HO.out, hR]
          rw [hR] at hm
          clear hR
          obtain ⟨⟨c0, c1, c2, c3, c4, c5, c6, c7⟩, -⟩ := hm.all
          have y0 := hm.z.frozen 0
          have y1 := hm.z.frozen 1
          have y2 := hm.z.frozen 2
          have y3 := hm.z.frozen 3
          have z0 := hm.z.cell 0
          have z1 := hm.z.cell 1
          have z2 := hm.z.cell 2
          have z3 := hm.z.cell 3
          go_wp2_with fail
          obtain ⟨W4, hW4, hR4, hb4⟩ := hm.z.out4 hm.bel (Nat.le_refl _) (.int .u32 (R 0).toNat) (.int .u32 (R 1).toNat) (.int .u32 (R 2).toNat) (.int .u32 (R 3).toNat)
          rw [← hW4]
          clear y0 y1 y2 y3 z0 z1 z2 z3 c0 c1 c2 c3 c4 c5 c6 c7 hW4
          have r0 := hR4.cell 0
          have r1 := hR4.cell 1
          have r2 := hR4.cell 2
          have r3 := hR4.cell 3
          refine bodyPost_ret (by simp [results, Tryd.results28, go_sem, r0, r1, r2, r3]; try rfl) rfl ?_
          exact ⟨by rw [HO2.out]; rfl, hb4⟩
    · have hq8 : (((s.size : Int) + 1 + z) % 16 == 8) = false := by rw [beq_eq_false_iff_ne]; exact fun h => hlz (HZM.out z hz h)
      have hzZ : z < Z := by omega
      have hc1 : ¬ 9223372036854775807 < t.size + (⟨#[0]⟩ : ByteArray).size := by have : (⟨#[0]⟩ : ByteArray).size = 1 := rfl; omega
      have hap : (t ++ ⟨#[0]⟩ : ByteArray).size = t.size + 1 := by rw [ByteArray.size_append]; rfl
      have HAP := Lib.hid hap
      have HTS := Lib.hid hts
      clear hlz hap hts
      go_wp2_with fail
      go_round
      case rel =>
        refine ⟨z + 1, _, hzZ, rfl, by rw [HAP.out, HTS.out]; omega, ?_⟩
        unfold Hid
        rw [ba_append, HT.out, List.replicate_succ', List.append_assoc, List.cons_append]
      case measure =>
        have h1 := HAP.out
        have h2 := HTS.out
        show s.size + 1 + Z - (t ++ ⟨#[0]⟩ : ByteArray).size < s.size + 1 + Z - t.size
        omega
end Go.Proofs.YtdkkomcokefkhaaDoor
