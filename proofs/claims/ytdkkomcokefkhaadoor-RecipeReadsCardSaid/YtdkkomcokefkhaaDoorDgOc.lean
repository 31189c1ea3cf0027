/- Layer 3: the digest of bytes, walked. -/
import Derived.Test.YtdkkomcokefkhaaDoorDgOb
import Derived.Test.YtdkkomcokefkhaaDoorGr
import Derived.Test.YtdkkomcokefkhaaDoorWord
import Derived.Deep.DrawnRows
namespace Go.Proofs.YtdkkomcokefkhaaDoor
open Go.RowKit
attribute [local go_sem ↓] Go.wp_at_zero Go.wp_at_succ

/-- What the walk of a digest of bytes holds: the result's box, the state's, the table. -/
structure Oz (w : World) (f : Nat → UInt32) (W : World) : Prop where
  z : Blk W w.heap.size 24 #[.int .u32 0, .int .u32 0, .int .u32 0, .int .u32 0]
  st : St W (w.heap.size + 1) f
  p0 : Places w
  bel : Below w.heap.size w W
section
variable {w W W' : World} {f : Nat → UInt32}
theorem one8_vals : stv one8 = #[.int .u32 1, .int .u32 0, .int .u32 0, .int .u32 0, .int .u32 0, .int .u32 0, .int .u32 0, .int .u32 0] := by rfl
theorem Oz.new (w : World) (hP : Places w) : Oz w one8 ((w.alloc (.cells #[.int .u32 0, .int .u32 0, .int .u32 0, .int .u32 0] 24)).alloc (.cells #[.int .u32 1, .int .u32 0, .int .u32 0, .int .u32 0, .int .u32 0, .int .u32 0, .int .u32 0, .int .u32 0] 56)) :=
  have c := ((Below.refl _ w).alloc (Nat.le_refl _) (.cells #[.int .u32 0, .int .u32 0, .int .u32 0, .int .u32 0] 24)).alloc (by simp) (.cells #[.int .u32 1, .int .u32 0, .int .u32 0, .int .u32 0, .int .u32 0, .int .u32 0, .int .u32 0, .int .u32 0] 56)
  ⟨(Blk.new w _ _).alloc _, by
    have h := Blk.new (w.alloc (.cells #[.int .u32 0, .int .u32 0, .int .u32 0, .int .u32 0] 24)) 56 (stv one8)
    rw [one8_vals] at h
    unfold St
    rw [one8_vals]
    simpa using h, hP, c⟩
theorem Oz.below (h : Oz w f W) (hb : Below W.heap.size W W') : Oz w f W' := ⟨h.z.below hb h.z.lt, h.st.below hb h.st.lt, h.p0, h.bel.trans (hb.mono h.bel.size)⟩
theorem Oz.belowB (h : Oz w f W) {B : Nat} (hB : w.heap.size + 2 ≤ B) (hb : Below B W W') : Oz w f W' := ⟨h.z.below hb (by omega), h.st.below hb (by omega), h.p0, h.bel.trans (hb.mono (by omega))⟩
theorem Oz.size (h : Oz w f W) : w.heap.size + 2 ≤ W.heap.size := h.st.lt
theorem Oz.bytes (h : Oz w f W) (e : TypeId) (S : ByteArray) : Oz w f (Lib.bytesWorld W e S) := h.below (Go.Joins.below_bytesWorld W.heap.size W e S (Nat.le_refl _))
theorem Oz.alloc (h : Oz w f W) (o : Obj) : Oz w f (W.alloc o) := h.below ((Below.refl _ W).alloc (Nat.le_refl _) o)
theorem Oz.drew (h : Oz w f W) : Oz w f W.drew := h.below (Below.refl _ W).drew
theorem Oz.all (h : Oz w f W) : (W.cell? ⟨w.heap.size + 1, 0, none⟩ = some (.int .u32 (f 0).toNat) ∧ W.cell? ⟨w.heap.size + 1, 1, none⟩ = some (.int .u32 (f 1).toNat) ∧ W.cell? ⟨w.heap.size + 1, 2, none⟩ = some (.int .u32 (f 2).toNat) ∧ W.cell? ⟨w.heap.size + 1, 3, none⟩ = some (.int .u32 (f 3).toNat) ∧ W.cell? ⟨w.heap.size + 1, 4, none⟩ = some (.int .u32 (f 4).toNat) ∧ W.cell? ⟨w.heap.size + 1, 5, none⟩ = some (.int .u32 (f 5).toNat) ∧ W.cell? ⟨w.heap.size + 1, 6, none⟩ = some (.int .u32 (f 6).toNat) ∧ W.cell? ⟨w.heap.size + 1, 7, none⟩ = some (.int .u32 (f 7).toNat)) ∧
    W.frozen? ⟨w.heap.size + 1, 0, none⟩ = false ∧ W.frozen? ⟨w.heap.size + 1, 1, none⟩ = false ∧ W.frozen? ⟨w.heap.size + 1, 2, none⟩ = false ∧ W.frozen? ⟨w.heap.size + 1, 3, none⟩ = false ∧ W.frozen? ⟨w.heap.size + 1, 4, none⟩ = false ∧ W.frozen? ⟨w.heap.size + 1, 5, none⟩ = false ∧ W.frozen? ⟨w.heap.size + 1, 6, none⟩ = false ∧ W.frozen? ⟨w.heap.size + 1, 7, none⟩ = false :=
  ⟨⟨h.st.cell 0 (by decide), h.st.cell 1 (by decide), h.st.cell 2 (by decide), h.st.cell 3 (by decide), h.st.cell 4 (by decide), h.st.cell 5 (by decide), h.st.cell 6 (by decide), h.st.cell 7 (by decide)⟩,
    h.st.frozen 0, h.st.frozen 1, h.st.frozen 2, h.st.frozen 3, h.st.frozen 4, h.st.frozen 5, h.st.frozen 6, h.st.frozen 7⟩
theorem Oz.pl (h : Oz w f W) : Places W := h.p0.below h.bel h.p0.1
theorem Oz.fill (h : Oz w f W) (R : Nat → UInt32) : ∃ W8, W8 = ((((((((W.setCell ⟨w.heap.size + 1, 0, none⟩ (.int .u32 (R 0).toNat)).setCell ⟨w.heap.size + 1, 1, none⟩ (.int .u32 (R 1).toNat)).setCell ⟨w.heap.size + 1, 2, none⟩ (.int .u32 (R 2).toNat)).setCell ⟨w.heap.size + 1, 3, none⟩ (.int .u32 (R 3).toNat)).setCell ⟨w.heap.size + 1, 4, none⟩ (.int .u32 (R 4).toNat)).setCell ⟨w.heap.size + 1, 5, none⟩ (.int .u32 (R 5).toNat)).setCell ⟨w.heap.size + 1, 6, none⟩ (.int .u32 (R 6).toNat)).setCell ⟨w.heap.size + 1, 7, none⟩ (.int .u32 (R 7).toNat)) ∧ Oz w R W8 :=
  ⟨_, rfl, ((((((((h.z.far (p := ⟨w.heap.size + 1, 0, none⟩) (by simp) _).far (p := ⟨w.heap.size + 1, 1, none⟩) (by simp) _).far (p := ⟨w.heap.size + 1, 2, none⟩) (by simp) _).far (p := ⟨w.heap.size + 1, 3, none⟩) (by simp) _).far (p := ⟨w.heap.size + 1, 4, none⟩) (by simp) _).far (p := ⟨w.heap.size + 1, 5, none⟩) (by simp) _).far (p := ⟨w.heap.size + 1, 6, none⟩) (by simp) _).far (p := ⟨w.heap.size + 1, 7, none⟩) (by simp) _), Blk.fill h.st (wv (R 0)) (wv (R 1)) (wv (R 2)) (wv (R 3)) (wv (R 4)) (wv (R 5)) (wv (R 6)) (wv (R 7)), h.p0, ((((((((h.bel.setCell (p := ⟨w.heap.size + 1, 0, none⟩) (Nat.le_succ _) _).setCell (p := ⟨w.heap.size + 1, 1, none⟩) (Nat.le_succ _) _).setCell (p := ⟨w.heap.size + 1, 2, none⟩) (Nat.le_succ _) _).setCell (p := ⟨w.heap.size + 1, 3, none⟩) (Nat.le_succ _) _).setCell (p := ⟨w.heap.size + 1, 4, none⟩) (Nat.le_succ _) _).setCell (p := ⟨w.heap.size + 1, 5, none⟩) (Nat.le_succ _) _).setCell (p := ⟨w.heap.size + 1, 6, none⟩) (Nat.le_succ _) _).setCell (p := ⟨w.heap.size + 1, 7, none⟩) (Nat.le_succ _) _)⟩
end

theorem sl_lit2 (W : World) (E : TypeId) (x y : UInt32) : Sl (W.alloc (.cells #[.int .u32 x.toNat, .int .u32 y.toNat] E)).drew (W.alloc (.cells #[.int .u32 x.toNat, .int .u32 y.toNat] E)).drew.heap.size (some ⟨W.heap.size, 0, none⟩) 2 ([x, y].map wv) :=
  ⟨rfl, fun _ => ⟨W.heap.size, 0, rfl, by simp, fun j u hj => by
    have h := lit_cells W E #[.int .u32 x.toNat, .int .u32 y.toNat] j u hj
    have ea : (⟨W.heap.size, 0, none⟩ : Addr).add j = ⟨W.heap.size, j, none⟩ := by unfold Addr.add; split <;> simp_all
    rw [ea] at h
    rw [Nat.zero_add]
    exact h⟩⟩
def lenV (v : Value) : Nat := match v with | .slice _ n _ => n | _ => 0
theorem Gr.form {w : World} {B : Nat} {e : TypeId} {v : Value} {n : Nat} {xs : List Value} (h : Gr w B e v n xs) : ∃ g cap, v = .slice (some ⟨g, 0, none⟩) n cap := by
  obtain ⟨g, cap, hv, -⟩ := h.cell
  exact ⟨g, cap, hv⟩
set_option maxHeartbeats 4000000 in
theorem digest_Of (s : ByteArray) (w : World) (hP : Places w) (hs : s.size ≤ 1000000000) :
    Calls Tryd.prog 19 #[.string s] w fun e w' => e = .returned (.agg (dgv (ofL s.data.toList))) ∧ Below w.heap.size w w' := by
  have hO := Oz.new w hP
  obtain ⟨q, hq⟩ : ∃ q, s.size / 16 = q := ⟨_, rfl⟩
  have hqI : (s.size : Int) / 16 = q := by omega
  have HQ := Lib.hid hq
  have HF : Hid (∀ k, k < q → ∀ i, i < 4 → leAt s.data.toList (4 * k + i) = leAt (padL s.data.toList) (4 * k + i)) := by
    intro k hk i hi
    have hl : s.data.toList.length = s.size := rfl
    unfold padL
    rw [leAt_front _ _ _ (by omega)]
  clear hq
  go_enter Tryd.func19, Tryd.ntmps19
  go_wp2_with fail
  go_loopw [5] (fun iv wr => ∃ k : Nat, k ≤ q ∧ iv = .int .i64 (16 * (k : Int)) ∧ Oz w (spg (leAt (padL s.data.toList)) k) wr) (fun iv _ => 16 * q - (intOf iv).toNat)
  case atStart => exact ⟨0, Nat.zero_le _, rfl, hO⟩
  case round =>
    clear hO
    obtain ⟨k, hk, rfl, hm⟩ := hrel
    by_cases hlt : k < q
    · obtain ⟨F, hF⟩ : ∃ F, spg (leAt (padL s.data.toList)) k = F := ⟨_, rfl⟩
      obtain ⟨b, hb⟩ : ∃ b, (fun i => leAt s.data.toList (4 * k + i)) = b := ⟨_, rfl⟩
      obtain ⟨R, hR⟩ : ∃ R, absorb F b = R := ⟨_, rfl⟩
      have HR : Hid (spg (leAt (padL s.data.toList)) (k + 1) = R) := by
        unfold Hid
        rw [← hR, ← hb, ← hF]
        exact absorb_congr _ _ _ (fun i hi => (HF.out k hlt i hi).symm)
      have k4 := fun W => digest_four s (16 * (k : Int)) (4 * k) W (by omega) (by have := HQ.out; omega) (by omega)
      rw [hb] at k4
      have K4 := Lib.hid k4
      have kt : ∀ W, Places W → Calls Tryd.prog 33 #[.agg #[.int .u32 (F 0).toNat, .int .u32 (F 1).toNat, .int .u32 (F 2).toNat, .int .u32 (F 3).toNat, .int .u32 (F 4).toNat, .int .u32 (F 5).toNat, .int .u32 (F 6).toNat, .int .u32 (F 7).toNat], .agg (dgv b)] W fun e W' => e = .returned (.agg #[.int .u32 (R 0).toNat, .int .u32 (R 1).toNat, .int .u32 (R 2).toNat, .int .u32 (R 3).toNat, .int .u32 (R 4).toNat, .int .u32 (R 5).toNat, .int .u32 (R 6).toNat, .int .u32 (R 7).toNat]) ∧ Below W.heap.size W W' := fun W h => by
        have h9 := digest_take F b W h
        rw [hR] at h9
        exact h9
      have KT := Lib.hid kt
      rw [hF] at hm
      have hltI : 16 * (k : Int) < q * 16 := by omega
      clear k4 kt hF hb hR
      go_wp2_with fail
      obtain ⟨⟨c0, c1, c2, c3, c4, c5, c6, c7⟩, y0, y1, y2, y3, y4, y5, y6, y7⟩ := hm.all
      go_region_with ((first
        | (go_at_call 34; refine (K4.out _).mono ?_; rintro e w6 ⟨rfl, hb6⟩; (first | have hm6 := hm.below hb6 | have hm6 := hm.drew.below hb6 | have hm6 := hm.drew.drew.below hb6); obtain ⟨⟨d0, d1, d2, d3, d4, d5, d6, d7⟩, z0, z1, z2, z3, z4, z5, z6, z7⟩ := hm6.all)
        | (go_at_call 33; refine (KT.out _ hm6.pl).mono ?_; rintro e w7 ⟨rfl, hb7⟩; (first | have hm7 := hm6.below hb7 | have hm7 := hm6.drew.below hb7); obtain ⟨⟨e0, e1, e2, e3, e4, e5, e6, e7⟩, x0, x1, x2, x3, x4, x5, x6, x7⟩ := hm7.all)))
      all_goals
        obtain ⟨Wf, hWf, hm8⟩ := hm7.fill R
        rw [← hWf]
        clear c0 c1 c2 c3 c4 c5 c6 c7 y0 y1 y2 y3 y4 y5 y6 y7 d0 d1 d2 d3 d4 d5 d6 d7 z0 z1 z2 z3 z4 z5 z6 z7 e0 e1 e2 e3 e4 e5 e6 e7 x0 x1 x2 x3 x4 x5 x6 x7 hm7 hm6 hm hWf
        go_wp2_with fail
        go_roundw
        case rel => exact ⟨k + 1, hlt, by go_num, by rw [HR.out]; exact hm8⟩
        case measure => simp [intOf]; omega
    · obtain rfl : k = q := by omega
      have hlt' : ¬ 16 * (k : Int) < k * 16 := by omega
      have hcb := fun (W : World) (S : ByteArray) => Lib.run_convert_string_bytes (P := Tryd.prog) W 9 59 5 S Tryd.underlying9 Tryd.underlying59 Tryd.underlying5
      obtain ⟨S, hS⟩ : ∃ S : ByteArray, s.extract (k * 16) s.size = S := ⟨_, rfl⟩
      have hSl : S.data.toList = s.data.toList.drop (4 * (4 * k)) := by
        rw [← hS, ByteArray.data_extract, Array.toList_extract, List.extract_eq_take_drop]
        rw [List.take_of_length_le (by rw [List.length_drop]; exact Nat.le_refl _)]
        congr 1
        omega
      have hSz : S.size = s.size - 16 * k := by
        have h := congrArg List.length hSl
        rw [List.length_drop] at h
        have e1 : S.data.toList.length = S.size := rfl
        have e2 : s.data.toList.length = s.size := rfl
        omega
      have HSl := Lib.hid hSl
      have HSz := Lib.hid hSz
      have hSm : S.size ≤ 1000000000 := by omega
      have hwr := hm.size
      have hG0 := Gr.bytes wr (w.heap.size + 2) 5 S hwr
      have hm1 := hm.bytes 5 S
      clear hSl hSz
      go_wp2_with (at_builtin; refine wpList_append_gr rfl _ _ 59 rfl (w.heap.size + 2) 5 (.int .u8 0) 1 Tryd.underlying59 info_u8 rfl _ _ _ rfl (hG0.alloc _) _ 1 _ [.int .u8 128] rfl rfl (lit_cells _ _ #[.int .u8 128]) (by simp [Value.oneCell']) (by decide) (by omega) (by omega) (by have := hm1.size; simp; omega) ?_; intro v1 w1 hG1 hb1)
      have hm2 := (hm1.alloc (.cells #[.int .u8 128] 5)).belowB (Nat.le_refl _) hb1
      clear hG0 hm1 hb1 hcb hS hm hwr
      generalize (Lib.bytesWorld wr 5 S).heap.size = gg
      generalize grownCap wr S.size 0 5 = gc
      generalize wr.heap.size = gw
      obtain ⟨F, hF⟩ : ∃ F, spg (leAt (padL s.data.toList)) k = F := ⟨_, rfl⟩
      rw [hF] at hm2
      have HFk := Lib.hid hF
      clear hF
      have hz0 := padZ_lt s.size
      have hzm : ∀ z, z ≤ padZ s.size → ((S.size : Int) + 1 + z) % 16 = 8 → z = padZ s.size := by
        intro z hz h
        have h1 := HSz.out
        have h2 := HQ.out
        unfold padZ at hz ⊢
        omega
      have hze : ((S.size : Int) + 1 + padZ s.size) % 16 = 8 := by
        have h1 := HSz.out
        have h2 := HQ.out
        unfold padZ
        omega
      obtain ⟨Z, hZ⟩ : ∃ Z, padZ s.size = Z := ⟨_, rfl⟩
      rw [hZ] at hz0 hzm hze
      have HZ := Lib.hid hZ
      have HZM := Lib.hid hzm
      clear hZ hzm
      go_loopw [6] (fun v wr => ∃ z : Nat, z ≤ Z ∧ Gr wr (w.heap.size + 2) 5 v (S.size + 1 + z) ((S.data.toList ++ (128 :: List.replicate z 0)).map bv) ∧ Oz w F wr) (fun v _ => S.size + 1 + Z - lenV v)
      case atStart => exact ⟨0, Nat.zero_le _, by rw [List.map_append]; exact hG1, hm2⟩
      case round =>
        clear hG1 hm2
        obtain ⟨z, hz, hG, hm3⟩ := hrel
        obtain ⟨g, cap, rfl⟩ := hG.form
        have hsz3 := hm3.size
        by_cases hlz : z = Z
        · subst hlz
          have hq8 : (((S.size : Int) + 1 + z) % 16 == 8) = true := by rw [beq_iff_eq]; exact hze
          go_wp2_with fail
          obtain ⟨T0, hT0⟩ : ∃ T0 : ByteArray, (⟨(S.data.toList ++ (128 :: List.replicate z 0)).toArray⟩ : ByteArray) = T0 := ⟨_, rfl⟩
          have hcvA : ∀ W : World, Gr W (w.heap.size + 2) 5 (.slice (some ⟨g, 0, none⟩) (S.size + 1 + z) cap) (S.size + 1 + z) ((S.data.toList ++ (128 :: List.replicate z 0)).map bv) → (convert 59 9 (.slice (some ⟨g, 0, none⟩) (S.size + 1 + z) cap)).run Tryd.prog W = .ok (.string T0) W := fun W h => by
            rw [← hT0]
            exact h.str 59 9 Tryd.underlying59 Tryd.underlying5 Tryd.underlying9
          have hT0s : T0.size = S.size + 1 + z := by rw [← hT0]; have h := hG.1; rw [List.length_map] at h; exact h
          have HT0s := Lib.hid hT0s
          clear hT0s
          have HT0 : Hid (T0.data.toList = S.data.toList ++ (128 :: List.replicate z 0)) := by rw [← hT0]; rfl
          clear hT0
          obtain ⟨x0, hx0⟩ : ∃ x, UInt32.ofNat s.size = x := ⟨_, rfl⟩
          obtain ⟨x1, hx1⟩ : ∃ x, UInt32.ofNat (s.size / 4294967296) = x := ⟨_, rfl⟩
          have eA : IntKind.u32.wrap (s.size : Int) = x0.toNat := by rw [← hx0, UInt32.toNat_ofNat', IntKind.wrap_u32]; omega
          have eB : IntKind.u32.wrap ((s.size : Int) / 4294967296) = x1.toNat := by rw [← hx1, UInt32.toNat_ofNat', IntKind.wrap_u32]; omega
          have HXB : Hid (lenB s.size = leBytes [x0, x1]) := by unfold Hid lenB; rw [hx0, hx1]
          clear hx0 hx1
          refine wp_region_held_drew (S := (fun W => Gr W (w.heap.size + 2) 5 (.slice (some ⟨g, 0, none⟩) (S.size + 1 + z) cap) (S.size + 1 + z) ((S.data.toList ++ (128 :: List.replicate z 0)).map bv) ∧ Oz w F W)) (by kernel_rfl) ⟨hG.drew, hm3.drew⟩ (fun hHeld => ?_)
          refine wpAnyH_take (i := 0) (v := ?_) rfl (by kernel_rfl) (by kernel_rfl) (by kernel_rfl) (fun _ _ _ h => h) (Or.inl ⟨by kernel_rfl, ?_⟩) (by assumption) ?_
          rotate_left
          · intro w hSw; (try dsimp only at hSw); go_simp; (try with_reducible rfl)
          try simp only [Act.put, List.getElem_toArray, List.getElem_cons_zero, List.setIfInBounds_toArray, List.set_cons_zero, List.set_cons_succ]
          refine wpAnyH_take (i := 1) (v := .string T0) rfl (by kernel_rfl) (by kernel_rfl) (by kernel_rfl) (fun _ _ _ h => h) (Or.inl ⟨by kernel_rfl, ?_⟩) (by assumption) ?_
          · intro W hSw; have hcv0 := hcvA W hSw.1; go_simp; (try with_reducible rfl)
          try simp only [Act.put, List.getElem_toArray, List.getElem_cons_succ, List.getElem_cons_zero, List.setIfInBounds_toArray, List.set_cons_zero, List.set_cons_succ]
          refine wpAnyH_take (i := 2) (v := ?_) rfl (by kernel_rfl) (by kernel_rfl) (by kernel_rfl) (fun _ _ _ h => h) (Or.inl ⟨by kernel_rfl, ?_⟩) (by assumption) ?_
          rotate_left
          · intro w hSw; (try dsimp only at hSw); go_simp; (try with_reducible rfl)
          try simp only [Act.put, List.getElem_toArray, List.getElem_cons_succ, List.getElem_cons_zero, List.setIfInBounds_toArray, List.set_cons_zero, List.set_cons_succ]
          refine wpAnyH_take (i := 3) (v := ?_) rfl (by kernel_rfl) (by kernel_rfl) (by kernel_rfl) (fun _ _ _ h => h) (Or.inl ⟨by kernel_rfl, ?_⟩) (by assumption) ?_
          rotate_left
          · intro w hSw; (try dsimp only at hSw); go_simp; (try with_reducible rfl)
          try simp only [Act.put, List.getElem_toArray, List.getElem_cons_succ, List.getElem_cons_zero, List.setIfInBounds_toArray, List.set_cons_zero, List.set_cons_succ]
          refine wpAnyH_take (i := 4) (v := ?_) rfl (by kernel_rfl) (by kernel_rfl) (by kernel_rfl) (fun _ _ _ h => h) (Or.inl ⟨by kernel_rfl, ?_⟩) (by assumption) ?_
          rotate_left
          · intro w hSw; (try dsimp only at hSw); go_simp; (try with_reducible rfl)
          try simp only [Act.put, List.getElem_toArray, List.getElem_cons_succ, List.getElem_cons_zero, List.setIfInBounds_toArray, List.set_cons_zero, List.set_cons_succ]
          refine wpAnyH_take (i := 5) (v := ?_) rfl (by kernel_rfl) (by kernel_rfl) (by kernel_rfl) (fun _ _ _ h => h) (Or.inl ⟨by kernel_rfl, ?_⟩) (by assumption) ?_
          rotate_left
          · intro w hSw; (try dsimp only at hSw); go_simp; (try with_reducible rfl)
          try simp only [Act.put, List.getElem_toArray, List.getElem_cons_succ, List.getElem_cons_zero, List.setIfInBounds_toArray, List.set_cons_zero, List.set_cons_succ]
          refine wpAnyH_take (i := 6) (v := ?_) rfl (by kernel_rfl) (by kernel_rfl) (by kernel_rfl) (fun _ _ _ h => h) (Or.inl ⟨by kernel_rfl, ?_⟩) (by assumption) ?_
          rotate_left
          · intro w hSw; (try dsimp only at hSw); go_simp; (try with_reducible rfl)
          try simp only [Act.put, List.getElem_toArray, List.getElem_cons_succ, List.getElem_cons_zero, List.setIfInBounds_toArray, List.set_cons_zero, List.set_cons_succ]
          refine wpAnyH_ready (rs := [7]) (by kernel_rfl) (by simp) ?_
          refine AllReadyH.cons rfl (fun K hK => ?_) AllReadyH.nil
          go_simp
          refine hK.out _ _ ⟨hG.drew.alloc _, hm3.drew.alloc _⟩ (fun hHeld => ?_)
          clear hK K
          try simp only [Act.put, List.getElem_toArray, List.getElem_cons_succ, List.getElem_cons_zero, List.setIfInBounds_toArray, List.set_cons_zero, List.set_cons_succ]
          refine wpAnyH_ready (rs := [8]) (by kernel_rfl) (by simp) ?_
          refine AllReadyH.cons rfl (fun K hK => ?_) AllReadyH.nil
          go_simp
          go_at_call 23
          refine (word_Bytes [x0, x1] (some ⟨wr.heap.size, 0, none⟩) 2 2 _ (sl_lit2 wr 22 x0 x1) (by decide)).mono ?_
          rintro e w6 ⟨⟨L, rfl, hL⟩, hb6⟩
          have hLs : L.size = 8 := by have h := congrArg List.length hL.out; rw [leBytes_length] at h; exact h
          have hcat : ¬ 9223372036854775807 < T0.size + L.size := by have := HT0s.out; omega
          have HLs := Lib.hid hLs
          clear hLs
          have hG6 := ((hG.alloc (.cells #[.int .u32 x0.toNat, .int .u32 x1.toNat] 22)).drew).below hb6
          have hm6 := ((hm3.alloc (.cells #[.int .u32 x0.toNat, .int .u32 x1.toNat] 22)).drew).below hb6
          refine hK.out _ _ ⟨hG6, hm6⟩ (fun hHeld => ?_)
          clear hK K
          try simp only [Act.put, List.getElem_toArray, List.getElem_cons_succ, List.getElem_cons_zero, List.setIfInBounds_toArray, List.set_cons_zero, List.set_cons_succ]
          refine wpAnyH_take (i := 9) (v := ?_) rfl (by kernel_rfl) (by kernel_rfl) (by kernel_rfl) (fun _ _ _ h => h) (Or.inl ⟨by kernel_rfl, ?_⟩) (by assumption) ?_
          rotate_left
          · intro w hSw; (try dsimp only at hSw); go_simp; (try with_reducible rfl)
          try simp only [Act.put, List.getElem_toArray, List.getElem_cons_succ, List.getElem_cons_zero, List.setIfInBounds_toArray, List.set_cons_zero, List.set_cons_succ]
          refine wpAnyH_take (i := 10) (v := ?_) rfl (by kernel_rfl) (by kernel_rfl) (by kernel_rfl) (fun _ _ _ h => h) (Or.inl ⟨by kernel_rfl, ?_⟩) (by assumption) ?_
          rotate_left
          · intro w hSw; (try dsimp only at hSw); go_simp; (try with_reducible rfl)
          try simp only [Act.put, List.getElem_toArray, List.getElem_cons_succ, List.getElem_cons_zero, List.setIfInBounds_toArray, List.set_cons_zero, List.set_cons_succ]
          refine wpAnyH_done (by kernel_rfl) ?_ _
          clear hG hm3 hcvA
          obtain ⟨T, hT⟩ : ∃ T : ByteArray, T0 ++ L = T := ⟨_, rfl⟩
          have hTl : T.data.toList = (padL s.data.toList).drop (4 * (4 * k)) := by
            have e1 : (s.data.toList).length = s.size := rfl
            have h9 := HQ.out
            unfold padL
            rw [← hT, ba_append, HT0.out, hL.out, HSl.out, List.append_assoc, List.drop_append_of_le_length (by omega), List.cons_append, e1, HZ.out, HXB.out]
          have hTz : T.size = S.size + 1 + z + 8 := by rw [← hT, ByteArray.size_append, HT0s.out, HLs.out]
          have HTl := Lib.hid hTl
          have hpq : ∃ p, T.size = 16 * p := ⟨T.size / 16, by omega⟩
          obtain ⟨q, hq⟩ := hpq
          have HTz := Lib.hid hTz
          simp only [hT]
          have hqb : q ≤ 100000000 := by omega
          clear hTl hTz hT
          have hqI : (T.size : Int) = 16 * q := by omega
          have HTq := Lib.hid hq
          clear hq
          go_wp2_with fail
          go_loopw [9] (fun iv wr => ∃ j : Nat, j ≤ q ∧ iv = .int .i64 (16 * (j : Int)) ∧ Oz w (spg (leAt (padL s.data.toList)) (k + j)) wr) (fun iv _ => 16 * q - (intOf iv).toNat)
          case atStart => exact ⟨0, Nat.zero_le _, rfl, by rw [Nat.add_zero, HFk.out]; exact hm6⟩
          case round =>
            clear hm6 hG6
            obtain ⟨j, hj, rfl, hm⟩ := hrel
            by_cases hlj : j < q
            · obtain ⟨F', hF'⟩ : ∃ F', spg (leAt (padL s.data.toList)) (k + j) = F' := ⟨_, rfl⟩
              obtain ⟨b, hb⟩ : ∃ b, (fun i => leAt T.data.toList (4 * j + i)) = b := ⟨_, rfl⟩
              obtain ⟨R, hR⟩ : ∃ R, absorb F' b = R := ⟨_, rfl⟩
              have HR : Hid (spg (leAt (padL s.data.toList)) (k + (j + 1)) = R) := by
                unfold Hid
                rw [← hR, ← hb, ← hF']
                refine absorb_congr _ _ _ (fun i _ => ?_)
                show leAt (padL s.data.toList) (4 * (k + j) + i) = leAt T.data.toList (4 * j + i)
                rw [HTl.out, leAt_drop, show 4 * (k + j) + i = 4 * k + (4 * j + i) by omega]
              have k4 := fun W => digest_four T (16 * (j : Int)) (4 * j) W (by omega) (by have := HTq.out; omega) (by have := HTz.out; omega)
              rw [hb] at k4
              have K4 := Lib.hid k4
              have kt : ∀ W, Places W → Calls Tryd.prog 33 #[.agg #[.int .u32 (F' 0).toNat, .int .u32 (F' 1).toNat, .int .u32 (F' 2).toNat, .int .u32 (F' 3).toNat, .int .u32 (F' 4).toNat, .int .u32 (F' 5).toNat, .int .u32 (F' 6).toNat, .int .u32 (F' 7).toNat], .agg (dgv b)] W fun e W' => e = .returned (.agg #[.int .u32 (R 0).toNat, .int .u32 (R 1).toNat, .int .u32 (R 2).toNat, .int .u32 (R 3).toNat, .int .u32 (R 4).toNat, .int .u32 (R 5).toNat, .int .u32 (R 6).toNat, .int .u32 (R 7).toNat]) ∧ Below W.heap.size W W' := fun W h => by
                have h9 := digest_take F' b W h
                rw [hR] at h9
                exact h9
              have KT := Lib.hid kt
              rw [hF'] at hm
              have hltJ : 16 * (j : Int) < 16 * q := by omega
              clear k4 kt hF' hb hR
              go_wp2_with fail
              obtain ⟨⟨c0, c1, c2, c3, c4, c5, c6, c7⟩, y0, y1, y2, y3, y4, y5, y6, y7⟩ := hm.all
              go_region_with ((first
                | (go_at_call 34; refine (K4.out _).mono ?_; rintro e w8 ⟨rfl, hb8⟩; (first | have hm8 := hm.below hb8 | have hm8 := hm.drew.below hb8 | have hm8 := hm.drew.drew.below hb8); obtain ⟨⟨d0, d1, d2, d3, d4, d5, d6, d7⟩, z0, z1, z2, z3, z4, z5, z6, z7⟩ := hm8.all)
                | (go_at_call 33; refine (KT.out _ hm8.pl).mono ?_; rintro e w9 ⟨rfl, hb9⟩; (first | have hm9 := hm8.below hb9 | have hm9 := hm8.drew.below hb9); obtain ⟨⟨e0, e1, e2, e3, e4, e5, e6, e7⟩, x0, x1, x2, x3, x4, x5, x6, x7⟩ := hm9.all)))
              all_goals
                obtain ⟨Wf, hWf, hm10⟩ := hm9.fill R
                rw [← hWf]
                clear c0 c1 c2 c3 c4 c5 c6 c7 y0 y1 y2 y3 y4 y5 y6 y7 d0 d1 d2 d3 d4 d5 d6 d7 z0 z1 z2 z3 z4 z5 z6 z7 e0 e1 e2 e3 e4 e5 e6 e7 x0 x1 x2 x3 x4 x5 x6 x7 hm9 hm8 hm hWf
                go_wp2_with fail
                go_roundw
                case rel => exact ⟨j + 1, hlj, by go_num, by rw [HR.out]; exact hm10⟩
                case measure => simp [intOf]; omega
            · obtain rfl : j = q := by omega
              have hltJ : ¬ 16 * (j : Int) < 16 * j := by omega
              obtain ⟨R, hR⟩ : ∃ R, spg (leAt (padL s.data.toList)) (k + j) = R := ⟨_, rfl⟩
              have HO : Hid (ofL s.data.toList = R) := by
                unfold Hid ofL
                rw [← hR]
                congr 1
                rw [padL_length]
                have e1 : (s.data.toList).length = s.size := rfl
                have h1 := HTz.out
                have h2 := HTq.out
                have h3 := HSz.out
                have h4 := HQ.out
                rw [e1, HZ.out]
                omega
              rw [hR] at hm
              have kf : ∀ W, Calls Tryd.prog 35 #[.agg #[.int .u32 (R 0).toNat, .int .u32 (R 1).toNat, .int .u32 (R 2).toNat, .int .u32 (R 3).toNat, .int .u32 (R 4).toNat, .int .u32 (R 5).toNat, .int .u32 (R 6).toNat, .int .u32 (R 7).toNat]] W fun e W' => e = .returned (.agg #[.int .u32 (R 0).toNat, .int .u32 (R 1).toNat, .int .u32 (R 2).toNat, .int .u32 (R 3).toNat]) ∧ Below W.heap.size W W' := fun W => digest_front R W
              have KF := Lib.hid kf
              clear hR kf
              obtain ⟨⟨c0, c1, c2, c3, c4, c5, c6, c7⟩, -⟩ := hm.all
              go_wp2_with fail
              refine (KF.out _).mono ?_
              rintro e w8 ⟨rfl, hb8⟩
              have hm8 := hm.below hb8
              clear c0 c1 c2 c3 c4 c5 c6 c7 hm hb8
              have y0 := hm8.z.frozen 0
              have y1 := hm8.z.frozen 1
              have y2 := hm8.z.frozen 2
              have y3 := hm8.z.frozen 3
              have z0 := hm8.z.cell 0
              have z1 := hm8.z.cell 1
              have z2 := hm8.z.cell 2
              have z3 := hm8.z.cell 3
              go_wp2_with fail
              obtain ⟨W4, hW4, hR4, hb4⟩ := hm8.z.out4 hm8.bel (Nat.le_refl _) (.int .u32 (R 0).toNat) (.int .u32 (R 1).toNat) (.int .u32 (R 2).toNat) (.int .u32 (R 3).toNat)
              rw [← hW4]
              clear y0 y1 y2 y3 z0 z1 z2 z3 hW4
              have r0 := hR4.cell 0
              have r1 := hR4.cell 1
              have r2 := hR4.cell 2
              have r3 := hR4.cell 3
              refine bodyPost_ret (by simp [results, Tryd.results19, go_sem, r0, r1, r2, r3]; try rfl) rfl ?_
              exact ⟨by rw [HO.out]; rfl, hb4⟩
        · have hq8 : (((S.size : Int) + 1 + z) % 16 == 8) = false := by rw [beq_eq_false_iff_ne]; exact fun h => hlz (HZM.out z hz h)
          have hb1 := hG.1
          have hzZ : z < Z := by omega
          clear hlz
          go_wp2_with (at_builtin; refine wpList_append_gr rfl _ _ 59 rfl (w.heap.size + 2) 5 (.int .u8 0) 1 Tryd.underlying59 info_u8 rfl _ _ _ rfl (hG.alloc _) _ 1 _ [.int .u8 0] rfl rfl (lit_cells _ _ #[.int .u8 0]) (by simp [Value.oneCell']) (by decide) (by omega) (by omega) (by simp; omega) ?_; intro v2 w2 hG2 hb2)
          have hm4 := (hm3.alloc (.cells #[.int .u8 0] 5)).belowB (Nat.le_refl _) hb2
          obtain ⟨g2, cap2, rfl⟩ := hG2.form
          go_roundw
          case rel =>
            refine ⟨z + 1, hzZ, ?_, hm4⟩
            have e : (S.data.toList ++ (128 :: List.replicate (z + 1) 0)).map bv = (S.data.toList ++ (128 :: List.replicate z 0)).map bv ++ [.int .u8 0] := by
              rw [List.replicate_succ', List.map_append, List.map_append, List.map_cons, List.map_cons, List.map_append, List.append_assoc]
              rfl
            rw [e]
            exact hG2
          case measure => simp [lenV]; omega
end Go.Proofs.YtdkkomcokefkhaaDoor
