/- The law DigestSponge, walked. -/
import Derived.Test.YtekpfpikbgiblaaDoorLawDOf
namespace Go.Proofs.YtekpfpikbgiblaaDoor
open Go.RowKit

theorem Gr.sl {w : World} {B : Nat} {e : TypeId} {v : Value} {n : Nat} {xs : List Value} (h : Gr w B e v n xs) : ∃ g cap, v = .slice (some ⟨g, 0, none⟩) n cap ∧ n ≤ cap ∧ Sl w w.heap.size (some ⟨g, 0, none⟩) n xs := by
  obtain ⟨hl, g, cap, cur, fz, rfl, hB, hg, hn, hc, ht, hf⟩ := h
  refine ⟨g, cap, rfl, hn, hl, fun _ => ⟨g, 0, rfl, (Array.getElem?_eq_some_iff.1 hg).1, fun j u hj => ?_⟩⟩
  have h2 := row_cell hg ht hl j u hj
  have ea : (⟨g, 0, none⟩ : Addr).add j = ⟨g, j, none⟩ := by unfold Addr.add; split <;> simp_all
  rw [ea] at h2
  rw [Nat.zero_add]
  exact h2

/-- Of a word's four bytes the first t. -/
def part4 (a b c d : UInt8) : Nat → UInt32
  | 0 => 0
  | 1 => word4 a 0 0 0
  | 2 => word4 a b 0 0
  | 3 => word4 a b c 0
  | _ => word4 a b c d
/-- The words in the making: those ahead of i are done, of word i there are t bytes. -/
def mk4 (G : Nat → UInt32) (i : Nat) (x : UInt32) : Nat → UInt32 := fun m => if m < i then G m else if m = i then x else 0
theorem mk4_at (G : Nat → UInt32) (i : Nat) (x : UInt32) : mk4 G i x i = x := by unfold mk4; rw [if_neg (by omega), if_pos rfl]
theorem mk4_set (G : Nat → UInt32) (i : Nat) (x y : UInt32) : sup (mk4 G i x) i y = mk4 G i y := by
  funext m
  unfold sup mk4
  by_cases h : m = i
  · subst h; rw [if_pos rfl, if_neg (by omega), if_pos rfl]
  · rw [if_neg h]
    by_cases h2 : m < i
    · rw [if_pos h2, if_pos h2]
    · rw [if_neg h2, if_neg h2, if_neg h, if_neg h]
theorem mk4_next (G : Nat → UInt32) (i : Nat) : mk4 G i (G i) = mk4 G (i + 1) 0 := by
  funext m
  unfold mk4
  by_cases h : m < i
  · rw [if_pos h, if_pos (by omega)]
  · rw [if_neg h]
    by_cases h2 : m = i
    · subst h2; rw [if_pos rfl, if_pos (by omega)]
    · rw [if_neg h2, if_neg (by omega)]
      by_cases h3 : m = i + 1
      · rw [if_pos h3]
      · rw [if_neg h3]
theorem mk4_zero (G : Nat → UInt32) : dgv (mk4 G 0 0) = #[.int .u32 0, .int .u32 0, .int .u32 0, .int .u32 0] := by rfl
theorem mk4_end (G : Nat → UInt32) : dgv (mk4 G 4 0) = dgv G := dgv_ext fun k hk => by unfold mk4; rw [if_pos hk]

/-- What the outer loop holds. -/
structure Sg (w : World) (g b : Nat) (L : List UInt8) (f : Nat → UInt32) (W : World) : Prop where
  st : St W g f
  sl : Sl W g (some ⟨b, 0, none⟩) L.length (L.map bv)
  lt : w.heap.size ≤ g
  bel : Below w.heap.size w W
section
variable {w W W' : World} {g b : Nat} {L : List UInt8} {f : Nat → UInt32}
theorem Sg.below (h : Sg w g b L f W) (hb : Below W.heap.size W W') : Sg w g b L f W' := ⟨h.st.below hb h.st.lt, h.sl.below (hb.mono (Nat.le_of_lt h.st.lt)), h.lt, below_tail' h.bel hb⟩
theorem Sg.belowB (h : Sg w g b L f W) {B : Nat} (hB : g < B) (hb : Below B W W') : Sg w g b L f W' := ⟨h.st.below hb hB, h.sl.below (hb.mono (Nat.le_of_lt hB)), h.lt, h.bel.trans (hb.mono (by have := h.lt; omega))⟩
theorem Sg.drew (h : Sg w g b L f W) : Sg w g b L f W.drew := h.below (Below.refl _ W).drew
theorem Sg.alloc (h : Sg w g b L f W) (o : Obj) : Sg w g b L f (W.alloc o) := h.below ((Below.refl _ W).alloc (Nat.le_refl _) o)
theorem Sg.all (h : Sg w g b L f W) : (W.cell? ⟨g, 0, none⟩ = some (.int .u32 (f 0).toNat) ∧ W.cell? ⟨g, 1, none⟩ = some (.int .u32 (f 1).toNat) ∧ W.cell? ⟨g, 2, none⟩ = some (.int .u32 (f 2).toNat) ∧ W.cell? ⟨g, 3, none⟩ = some (.int .u32 (f 3).toNat) ∧ W.cell? ⟨g, 4, none⟩ = some (.int .u32 (f 4).toNat) ∧ W.cell? ⟨g, 5, none⟩ = some (.int .u32 (f 5).toNat) ∧ W.cell? ⟨g, 6, none⟩ = some (.int .u32 (f 6).toNat) ∧ W.cell? ⟨g, 7, none⟩ = some (.int .u32 (f 7).toNat)) ∧ W.frozen? ⟨g, 0, none⟩ = false ∧ W.frozen? ⟨g, 1, none⟩ = false ∧ W.frozen? ⟨g, 2, none⟩ = false ∧ W.frozen? ⟨g, 3, none⟩ = false ∧ W.frozen? ⟨g, 4, none⟩ = false ∧ W.frozen? ⟨g, 5, none⟩ = false ∧ W.frozen? ⟨g, 6, none⟩ = false ∧ W.frozen? ⟨g, 7, none⟩ = false :=
  ⟨⟨h.st.cell 0 (by decide), h.st.cell 1 (by decide), h.st.cell 2 (by decide), h.st.cell 3 (by decide), h.st.cell 4 (by decide), h.st.cell 5 (by decide), h.st.cell 6 (by decide), h.st.cell 7 (by decide)⟩, h.st.frozen 0, h.st.frozen 1, h.st.frozen 2, h.st.frozen 3, h.st.frozen 4, h.st.frozen 5, h.st.frozen 6, h.st.frozen 7⟩
theorem Sg.fill (h : Sg w g b L f W) (R : Nat → UInt32) : ∃ W8, W8 = ((((((((W.setCell ⟨g, 0, none⟩ (.int .u32 (R 0).toNat)).setCell ⟨g, 1, none⟩ (.int .u32 (R 1).toNat)).setCell ⟨g, 2, none⟩ (.int .u32 (R 2).toNat)).setCell ⟨g, 3, none⟩ (.int .u32 (R 3).toNat)).setCell ⟨g, 4, none⟩ (.int .u32 (R 4).toNat)).setCell ⟨g, 5, none⟩ (.int .u32 (R 5).toNat)).setCell ⟨g, 6, none⟩ (.int .u32 (R 6).toNat)).setCell ⟨g, 7, none⟩ (.int .u32 (R 7).toNat)) ∧ Sg w g b L R W8 :=
  ⟨_, rfl, Blk.fill h.st (wv (R 0)) (wv (R 1)) (wv (R 2)) (wv (R 3)) (wv (R 4)) (wv (R 5)) (wv (R 6)) (wv (R 7)), h.sl.below (((((((((Below.refl g W).setCell (p := ⟨g, 0, none⟩) (Nat.le_refl g) _).setCell (p := ⟨g, 1, none⟩) (Nat.le_refl g) _).setCell (p := ⟨g, 2, none⟩) (Nat.le_refl g) _).setCell (p := ⟨g, 3, none⟩) (Nat.le_refl g) _).setCell (p := ⟨g, 4, none⟩) (Nat.le_refl g) _).setCell (p := ⟨g, 5, none⟩) (Nat.le_refl g) _).setCell (p := ⟨g, 6, none⟩) (Nat.le_refl g) _).setCell (p := ⟨g, 7, none⟩) (Nat.le_refl g) _), h.lt, ((((((((h.bel.setCell (p := ⟨g, 0, none⟩) h.lt _).setCell (p := ⟨g, 1, none⟩) h.lt _).setCell (p := ⟨g, 2, none⟩) h.lt _).setCell (p := ⟨g, 3, none⟩) h.lt _).setCell (p := ⟨g, 4, none⟩) h.lt _).setCell (p := ⟨g, 5, none⟩) h.lt _).setCell (p := ⟨g, 6, none⟩) h.lt _).setCell (p := ⟨g, 7, none⟩) h.lt _)⟩
end
theorem Sg.held {w W : World} {g b : Nat} {L : List UInt8} {f : Nat → UInt32} (h : Sg w g b L f W) : W.cell? ⟨g, 0, none⟩ = some (.int .u32 (f 0).toNat) ∧ W.cell? ⟨g, 1, none⟩ = some (.int .u32 (f 1).toNat) ∧ W.cell? ⟨g, 2, none⟩ = some (.int .u32 (f 2).toNat) ∧ W.cell? ⟨g, 3, none⟩ = some (.int .u32 (f 3).toNat) ∧ Sg w g b L f W :=
  ⟨h.st.cell 0 (by decide), h.st.cell 1 (by decide), h.st.cell 2 (by decide), h.st.cell 3 (by decide), h⟩
/-- What the inner loop holds. -/
structure Si (w : World) (g b : Nat) (L : List UInt8) (f : Nat → UInt32) (q : Nat) (h : Nat → UInt32) (W : World) : Prop where
  sg : Sg w g b L f W
  bx : Blk W q 24 (dgv h)
  lt : g < q
section
variable {w W W' : World} {g b q : Nat} {L : List UInt8} {f h : Nat → UInt32}
theorem Si.set (s : Si w g b L f q h W) (i : Nat) (hi : i < 4) (v : UInt32) : Si w g b L f q (sup h i v) (W.setCell ⟨q, i, none⟩ (.int .u32 v.toNat)) where
  sg := s.sg.belowB (Nat.lt_succ_self g) ((Below.refl (g + 1) W).setCell (p := ⟨q, i, none⟩) s.lt _)
  bx := by
    have h2 := s.bx.set i (wv v)
    rw [dgv_set h i v hi] at h2
    exact h2
  lt := s.lt
theorem Si.drew (s : Si w g b L f q h W) : Si w g b L f q h W.drew := ⟨s.sg.drew, s.bx.drew, s.lt⟩
end
theorem lenB_small (n : Nat) (h : n ≤ 300) : (lenB n).map bv = [.int .u8 ((n : Int) % 256), .int .u8 ((n : Int) / 256 % 256), .int .u8 0, .int .u8 0, .int .u8 0, .int .u8 0, .int .u8 0, .int .u8 0] := by
  have e : lenB n = le4 (UInt32.ofNat n) ++ le4 0 := by
    unfold lenB leBytes
    rw [show n / 4294967296 = 0 by omega]
    rfl
  have e1 : ((UInt32.ofNat n).toNat : Int) = n := by rw [UInt32.toNat_ofNat']; omega
  rw [e, List.map_append, le4_vals, le4_vals, e1, show ((n : Int) / 65536 % 256) = 0 by omega, show ((n : Int) / 16777216) = 0 by omega]
  rfl
set_option maxHeartbeats 8000000 in
theorem dsponge_walk (s : ByteArray) (w : World) (hT : Small w) (hP : Places w) :
    Calls Tryd.prog 4 #[.string s] w fun e w' => e = .returned (.bool true) ∧ Below w.heap.size w w' := by
  have KA : Hid (∀ W, Small W → Places W → Calls Tryd.prog 6 #[] W fun e w' => e = .returned (.bool true) ∧ Below W.heap.size W w') := dg_awake
  have HT := Lib.hid hT
  have HP := Lib.hid hP
  by_cases hs : (300 : Int) < s.size
  · clear hT hP
    go_enter Tryd.func4, Tryd.ntmps4
    go_wp2_with fail
    refine (KA.out _ HT.out HP.out).mono ?_
    rintro e w1 ⟨rfl, hb1⟩
    go_wp2_with fail
    go_returns
    exact ⟨rfl, hb1⟩
  · clear hT hP
    have hcb := fun (W : World) (S : ByteArray) => Lib.run_convert_string_bytes (P := Tryd.prog) W 9 28 5 S Tryd.underlying9 Tryd.underlying28 Tryd.underlying5
    have hc0 : ¬ 9223372036854775807 < s.size + (⟨#[128]⟩ : ByteArray).size := by have : (⟨#[128]⟩ : ByteArray).size = 1 := rfl; omega
    obtain ⟨S, hS⟩ : ∃ S : ByteArray, s ++ ⟨#[128]⟩ = S := ⟨_, rfl⟩
    have HSl : Hid (S.data.toList = s.data.toList ++ [128]) := by unfold Hid; rw [← hS, ba_append]
    have HSz : Hid (S.size = s.size + 1) := by unfold Hid; rw [← hS, ByteArray.size_append]; rfl
    have hG0 := Gr.bytes w w.heap.size 5 S (Nat.le_refl _)
    have bel0 := Go.Joins.below_bytesWorld w.heap.size w 5 S (Nat.le_refl _)
    obtain ⟨Z, hZ⟩ : ∃ Z, padZ s.size = Z := ⟨_, rfl⟩
    have hz0 := padZ_lt s.size
    have hzm : ∀ z, z ≤ padZ s.size → ((s.size : Int) + 1 + z) % 16 = 8 → z = padZ s.size := by
      intro z hz h
      unfold padZ at hz ⊢
      omega
    have hze : ((s.size : Int) + 1 + padZ s.size) % 16 = 8 := by
      unfold padZ
      omega
    rw [hZ] at hz0 hzm hze
    have HZ := Lib.hid hZ
    have HZM := Lib.hid hzm
    clear hZ hzm
    go_enter Tryd.func4, Tryd.ntmps4
    go_wp2_with fail
    clear hcb hS
    generalize grownCap w S.size 0 5 = gc at hG0 ⊢
    generalize Lib.bytesWorld w 5 S = W0 at hG0 bel0 ⊢
    go_loopw [4] (fun v wr => ∃ z : Nat, z ≤ Z ∧ Gr wr w.heap.size 5 v (s.size + 1 + z) ((s.data.toList ++ (128 :: List.replicate z 0)).map bv) ∧ Below w.heap.size w wr) (fun v _ => s.size + 1 + Z - lenV v)
    case atStart => exact ⟨0, Nat.zero_le _, by rw [show s.size + 1 + 0 = S.size from HSz.out.symm, show s.data.toList ++ 128 :: List.replicate 0 0 = S.data.toList from HSl.out.symm]; exact hG0, bel0⟩
    case round =>
      clear hG0 bel0
      obtain ⟨z, hz, hG, hbel⟩ := hrel
      obtain ⟨g, cap, rfl⟩ := hG.form
      have hsz3 := hbel.size
      by_cases hlz : z = Z
      · subst hlz
        have hq8 : (((s.size : Int) + 1 + z) % 16 == 8) = true := by rw [beq_iff_eq]; exact hze
        obtain ⟨x0, hx0⟩ : ∃ x : Int, (s.size : Int) % 256 = x := ⟨_, rfl⟩
        obtain ⟨x1, hx1⟩ : ∃ x : Int, (s.size : Int) / 256 % 256 = x := ⟨_, rfl⟩
        have eA : IntKind.u8.wrap (s.size : Int) = x0 := by rw [← hx0]; rfl
        have eB : IntKind.u8.wrap ((s.size : Int) / 256) = x1 := by rw [← hx1]; rfl
        have HLB : Hid ((lenB s.size).map bv = [.int .u8 x0, .int .u8 x1, .int .u8 0, .int .u8 0, .int .u8 0, .int .u8 0, .int .u8 0, .int .u8 0]) := by
          unfold Hid
          rw [lenB_small s.size (by omega), hx0, hx1]
        clear hx0 hx1
        go_wp2_with (at_builtin; refine wpList_append_gr rfl _ _ 28 rfl w.heap.size 5 (.int .u8 0) 1 Tryd.underlying28 info_u8 rfl _ _ _ rfl (hG.alloc _) _ 8 _ [.int .u8 x0, .int .u8 x1, .int .u8 0, .int .u8 0, .int .u8 0, .int .u8 0, .int .u8 0, .int .u8 0] rfl rfl (lit_cells _ _ #[.int .u8 x0, .int .u8 x1, .int .u8 0, .int .u8 0, .int .u8 0, .int .u8 0, .int .u8 0, .int .u8 0]) (by simp [Value.oneCell']) (by decide) (by omega) (by omega) (by simp; omega) ?_; intro v2 w2 hG2 hb2)
        have hb2' := (hbel.alloc hbel.size (.cells #[.int .u8 x0, .int .u8 x1, .int .u8 0, .int .u8 0, .int .u8 0, .int .u8 0, .int .u8 0, .int .u8 0] 5)).trans hb2
        obtain ⟨b, cap2, rfl, hcap2, hSl⟩ := hG2.sl
        obtain ⟨L, hL⟩ : ∃ L, padL s.data.toList = L := ⟨_, rfl⟩
        have e1 : s.data.toList.length = s.size := rfl
        have hLm : (s.data.toList ++ (128 :: List.replicate z 0)).map bv ++ [.int .u8 x0, .int .u8 x1, .int .u8 0, .int .u8 0, .int .u8 0, .int .u8 0, .int .u8 0, .int .u8 0] = L.map bv := by
          rw [← hL, ← HLB.out, ← List.map_append]
          unfold padL
          rw [e1, HZ.out, List.append_assoc, List.cons_append]
        have hLn : s.size + 1 + z + 8 = L.length := by
          rw [← hL, padL_length, e1, HZ.out]
          omega
        rw [hLm, hLn] at hSl
        simp only [hLn]
        obtain ⟨q, hq⟩ : ∃ q, L.length / 16 = q := ⟨_, rfl⟩
        have hLq : L.length = 16 * q := by
          have h9 := padL_sixteen s.data.toList
          rw [hL] at h9
          omega
        have HO : Hid (ofL s.data.toList = spg (leAt L) q) := by unfold Hid ofL; rw [hL, hq]
        have HLq := Lib.hid hLq
        have hLb : L.length ≤ 400 := by omega
        have hm0 : Sg w w2.heap.size b L one8 (w2.alloc (.cells #[.int .u32 1, .int .u32 0, .int .u32 0, .int .u32 0, .int .u32 0, .int .u32 0, .int .u32 0, .int .u32 0] 30)) := by
          refine ⟨?_, hSl.below ((Below.refl _ w2).alloc (Nat.le_refl _) _), hb2'.size, hb2'.alloc hb2'.size _⟩
          have h := Blk.new w2 30 (stv one8)
          rw [one8_vals] at h
          unfold St
          rw [one8_vals]
          exact h
        obtain ⟨M, hM⟩ : ∃ M : Int, (L.length : Int) = M := ⟨_, rfl⟩
        have hMb : M ≤ 400 := by omega
        have HM : Hid (M = 16 * (q : Int)) := by unfold Hid; omega
        clear hG hG2 hb2 hb2' hSl hLm hLn hq hLq hL hcap2 hsz3 hbel eA eB
        generalize w2.heap.size = g5 at hm0 ⊢
        generalize wr.heap.size = gl
        generalize World.alloc _ _ = W0 at hm0 ⊢
        go_loopw [6] (fun iv wr => ∃ J : Nat, J ≤ q ∧ iv = .int .i64 (16 * (J : Int)) ∧ Sg w g5 b L (spg (leAt L) J) wr) (fun iv _ => 16 * q - (intOf iv).toNat)
        case atStart => exact ⟨0, Nat.zero_le _, rfl, hm0⟩
        case round =>
          clear hm0
          obtain ⟨J, hJ, rfl, hm⟩ := hrel
          by_cases hlJ : J < q
          · obtain ⟨F, hF⟩ : ∃ F, spg (leAt L) J = F := ⟨_, rfl⟩
            rw [hF] at hm
            obtain ⟨G, hG⟩ : ∃ G : Nat → UInt32, (fun i => leAt L (4 * J + i)) = G := ⟨_, rfl⟩
            have HGA : Hid (∀ i, G i = word4 (L.getD (16 * J + 4 * i) 0) (L.getD (16 * J + 4 * i + 1) 0) (L.getD (16 * J + 4 * i + 2) 0) (L.getD (16 * J + 4 * i + 3) 0)) := by
              intro i
              rw [← hG]
              show leAt L (4 * J + i) = _
              unfold leAt
              rw [show 4 * (4 * J + i) = 16 * J + 4 * i by omega]
            obtain ⟨R, hR⟩ : ∃ R, absorb F G = R := ⟨_, rfl⟩
            have HR : Hid (spg (leAt L) (J + 1) = R) := by
              unfold Hid
              rw [← hR, ← hG, ← hF]
              rfl
            have kt : ∀ W, Places W → Calls Tryd.prog 9 #[.agg #[.int .u32 (F 0).toNat, .int .u32 (F 1).toNat, .int .u32 (F 2).toNat, .int .u32 (F 3).toNat, .int .u32 (F 4).toNat, .int .u32 (F 5).toNat, .int .u32 (F 6).toNat, .int .u32 (F 7).toNat], .agg #[.int .u32 (G 0).toNat, .int .u32 (G 1).toNat, .int .u32 (G 2).toNat, .int .u32 (G 3).toNat]] W fun e W' => e = .returned (.agg #[.int .u32 (R 0).toNat, .int .u32 (R 1).toNat, .int .u32 (R 2).toNat, .int .u32 (R 3).toNat, .int .u32 (R 4).toNat, .int .u32 (R 5).toNat, .int .u32 (R 6).toNat, .int .u32 (R 7).toNat]) ∧ Below W.heap.size W W' := fun W h => by
              have h9 := law_took F G W h
              rw [hR] at h9
              exact h9
            have KT := Lib.hid kt
            have hltJ : 16 * (J : Int) < M := by have := HM.out; omega
            have hJb : 16 * (J : Int) + 16 ≤ M := by have := HM.out; omega
            have hJn : 16 * J + 16 ≤ L.length := by have := HLq.out; omega
            have HF := Lib.hid hF
            clear kt hG hR hF
            go_wp2_with fail
            have hi0 : Si w g5 b L F wr.heap.size (mk4 G 0 0) (wr.alloc (.cells #[.int .u32 0, .int .u32 0, .int .u32 0, .int .u32 0] 24)) := ⟨hm.alloc _, by rw [mk4_zero]; exact Blk.new wr _ _, hm.st.lt⟩
            clear hm
            generalize wr.heap.size = g7 at hi0 ⊢
            generalize World.alloc _ _ = W1 at hi0 ⊢
            go_loopw [8] (fun kv wr => ∃ i t : Nat, i ≤ 4 ∧ t < 4 ∧ (i = 4 → t = 0) ∧ kv = .int .i64 (4 * (i : Int) + t) ∧ Si w g5 b L F g7 (mk4 G i (part4 (L.getD (16 * J + 4 * i) 0) (L.getD (16 * J + 4 * i + 1) 0) (L.getD (16 * J + 4 * i + 2) 0) (L.getD (16 * J + 4 * i + 3) 0) t)) wr) (fun kv _ => 16 - (intOf kv).toNat)
            case atStart => exact ⟨0, 0, by decide, by decide, fun h => absurd h (by decide), rfl, hi0⟩
            case round =>
              clear hi0
              obtain ⟨i, t, hi, ht, hit, rfl, hs4⟩ := hrel
              by_cases hl4 : i < 4
              · have hq7 := hs4.lt
                have hdiv : ∀ u : Int, 0 ≤ u → u < 4 → (4 * (i : Int) + u) / 4 = i := fun u h1 h2 => by omega
                have hmod : ∀ u : Int, 0 ≤ u → u < 4 → (4 * (i : Int) + u) % 4 = u := fun u h1 h2 => by omega
                have hcell : ∀ u : Nat, u < 4 → wr.cell? ⟨b, 16 * J + (4 * i + u), none⟩ = some (.int .u8 (L.getD (16 * J + 4 * i + u) 0).toNat) := by
                  intro u hu
                  have l0 : 16 * J + 4 * i + u < L.length := by omega
                  have h := hs4.sg.sl.cellAt (List.getElem?_map .. |>.trans (by rw [List.getElem?_eq_getElem l0]; rfl) : (L.map bv)[16 * J + 4 * i + u]? = some (bv L[16 * J + 4 * i + u]))
                  have e2 : 0 + (16 * J + 4 * i + u) = 16 * J + (4 * i + u) := by omega
                  rw [e2] at h
                  rw [h, List.getD_eq_getElem?_getD, List.getElem?_eq_getElem l0]
                  rfl
                have hHG := HGA.out i
                obtain ⟨a0, ha0⟩ : ∃ a, L.getD (16 * J + 4 * i) 0 = a := ⟨_, rfl⟩
                obtain ⟨a1, ha1⟩ : ∃ a, L.getD (16 * J + 4 * i + 1) 0 = a := ⟨_, rfl⟩
                obtain ⟨a2, ha2⟩ : ∃ a, L.getD (16 * J + 4 * i + 2) 0 = a := ⟨_, rfl⟩
                obtain ⟨a3, ha3⟩ : ∃ a, L.getD (16 * J + 4 * i + 3) 0 = a := ⟨_, rfl⟩
                have h0 := hcell 0 (by decide)
                have h1 := hcell 1 (by decide)
                have h2 := hcell 2 (by decide)
                have h3 := hcell 3 (by decide)
                rw [Nat.add_zero, Nat.add_zero, ha0] at h0
                rw [ha1] at h1
                rw [ha2] at h2
                rw [ha3] at h3
                rw [ha0, ha1, ha2, ha3] at hs4 hHG
                have hcb := hs4.bx.cell i
                rw [dgv_get _ i hl4, mk4_at] at hcb
                have hfb := hs4.bx.frozen i
                have HA := Lib.hid (And.intro ha0 (And.intro ha1 (And.intro ha2 ha3)))
                have HHG := Lib.hid hHG
                have HL4 := Lib.hid hl4
                have hiI : (i : Int) < 4 := by omega
                have hi0 : (0 : Int) ≤ i := by omega
                clear hcell ha0 ha1 ha2 ha3 hHG hit
                have htc : t = 0 ∨ t = 1 ∨ t = 2 ∨ t = 3 := by omega
                rcases htc with rfl | rfl | rfl | rfl
                · have hc : wr.cell? ⟨g7, i, none⟩ = some (.int .u32 0) := hcb
                  have hor : bits .or .u32 0 (a0.toNat : Int) = a0.toNat := by
                    have h := u32_or_nat 0 a0.toNat (by decide) (by have := a0.toNat_lt; omega)
                    rw [Nat.zero_or] at h
                    exact h
                  have d1 := hdiv 0 (by decide) (by decide)
                  have d2 := hmod 0 (by decide) (by decide)
                  rw [Int.add_zero] at d1 d2
                  have p0 : 0 ≤ 16 * (J : Int) + (4 * (i : Int)) := by omega
                  have p1 : 16 * (J : Int) + (4 * (i : Int)) < M := by omega
                  have p2 : (16 * (J : Int) + (4 * (i : Int))).toNat = 16 * J + (4 * i) := by omega
                  have p3 : 4 * (i : Int) < 16 := by omega
                  have p4 : 0 ≤ 4 * (i : Int) := by omega
                  clear hcb hdiv hmod h1 h2 h3
                  go_wp2_with fail
                  go_region
                  have ew2 : ((word4 a0 0 0 0).toNat : Int) = (a0.toNat : Int) := by rw [word4_toNat]; simp
                  have hs5 := (hs4.set i HL4.out (word4 a0 0 0 0)).drew
                  rw [mk4_set, ew2] at hs5
                  clear hs4 hc hfb h0
                  go_wp2_with fail
                  go_roundw
                  case rel => exact ⟨i, 1, hi, by decide, fun h => absurd h (by omega), by go_num, by rw [HA.out.1, HA.out.2.1, HA.out.2.2.1, HA.out.2.2.2]; exact hs5⟩
                  case measure => simp [intOf]; omega
                · have ew : ((word4 a0 0 0 0).toNat : Int) = (a0.toNat : Int) := by rw [word4_toNat]; simp
                  have hc : wr.cell? ⟨g7, i, none⟩ = some (.int .u32 ((a0.toNat : Int))) := by rw [← ew]; exact hcb
                  have d1 := hdiv 1 (by decide) (by decide)
                  have d2 := hmod 1 (by decide) (by decide)
                  have p0 : 0 ≤ 16 * (J : Int) + (4 * (i : Int) + 1) := by omega
                  have p1 : 16 * (J : Int) + (4 * (i : Int) + 1) < M := by omega
                  have p2 : (16 * (J : Int) + (4 * (i : Int) + 1)).toNat = 16 * J + (4 * i + 1) := by omega
                  have p3 : 4 * (i : Int) + 1 < 16 := by omega
                  have p4 : 0 ≤ 4 * (i : Int) + 1 := by omega
                  clear hcb hdiv hmod h0 h2 h3
                  go_wp2_with fail
                  go_region
                  have ew2 : ((word4 a0 a1 0 0).toNat : Int) = (a0.toNat : Int) + 256 * a1.toNat := by rw [word4_toNat]; simp
                  have hs5 := (hs4.set i HL4.out (word4 a0 a1 0 0)).drew
                  rw [mk4_set, ew2] at hs5
                  clear hs4 hc hfb h1
                  go_wp2_with fail
                  go_roundw
                  case rel => exact ⟨i, 2, hi, by decide, fun h => absurd h (by omega), by go_num, by rw [HA.out.1, HA.out.2.1, HA.out.2.2.1, HA.out.2.2.2]; exact hs5⟩
                  case measure => simp [intOf]; omega
                · have ew : ((word4 a0 a1 0 0).toNat : Int) = (a0.toNat : Int) + 256 * a1.toNat := by rw [word4_toNat]; simp
                  have hc : wr.cell? ⟨g7, i, none⟩ = some (.int .u32 ((a0.toNat : Int) + 256 * a1.toNat)) := by rw [← ew]; exact hcb
                  have d1 := hdiv 2 (by decide) (by decide)
                  have d2 := hmod 2 (by decide) (by decide)
                  have p0 : 0 ≤ 16 * (J : Int) + (4 * (i : Int) + 2) := by omega
                  have p1 : 16 * (J : Int) + (4 * (i : Int) + 2) < M := by omega
                  have p2 : (16 * (J : Int) + (4 * (i : Int) + 2)).toNat = 16 * J + (4 * i + 2) := by omega
                  have p3 : 4 * (i : Int) + 2 < 16 := by omega
                  have p4 : 0 ≤ 4 * (i : Int) + 2 := by omega
                  clear hcb hdiv hmod h0 h1 h3
                  go_wp2_with fail
                  go_region
                  have ew2 : ((word4 a0 a1 a2 0).toNat : Int) = (a0.toNat : Int) + 256 * a1.toNat + 65536 * a2.toNat := by rw [word4_toNat]; simp
                  have hs5 := (hs4.set i HL4.out (word4 a0 a1 a2 0)).drew
                  rw [mk4_set, ew2] at hs5
                  clear hs4 hc hfb h2
                  go_wp2_with fail
                  go_roundw
                  case rel => exact ⟨i, 3, hi, by decide, fun h => absurd h (by omega), by go_num, by rw [HA.out.1, HA.out.2.1, HA.out.2.2.1, HA.out.2.2.2]; exact hs5⟩
                  case measure => simp [intOf]; omega
                · have ew : ((word4 a0 a1 a2 0).toNat : Int) = (a0.toNat : Int) + 256 * a1.toNat + 65536 * a2.toNat := by rw [word4_toNat]; simp
                  have hc : wr.cell? ⟨g7, i, none⟩ = some (.int .u32 ((a0.toNat : Int) + 256 * a1.toNat + 65536 * a2.toNat)) := by rw [← ew]; exact hcb
                  have d1 := hdiv 3 (by decide) (by decide)
                  have d2 := hmod 3 (by decide) (by decide)
                  have p0 : 0 ≤ 16 * (J : Int) + (4 * (i : Int) + 3) := by omega
                  have p1 : 16 * (J : Int) + (4 * (i : Int) + 3) < M := by omega
                  have p2 : (16 * (J : Int) + (4 * (i : Int) + 3)).toNat = 16 * J + (4 * i + 3) := by omega
                  have p3 : 4 * (i : Int) + 3 < 16 := by omega
                  have p4 : 0 ≤ 4 * (i : Int) + 3 := by omega
                  clear hcb hdiv hmod h0 h1 h2
                  go_wp2_with fail
                  go_region
                  have hs5 := (hs4.set i HL4.out (word4 a0 a1 a2 a3)).drew
                  rw [mk4_set, show mk4 G i (word4 a0 a1 a2 a3) = mk4 G (i + 1) 0 by rw [← HHG.out, mk4_next]] at hs5
                  clear hs4 hc hfb h3
                  go_wp2_with fail
                  go_roundw
                  case rel => exact ⟨i + 1, 0, HL4.out, by decide, fun _ => rfl, by go_num, hs5⟩
                  case measure => simp [intOf]; omega
              · obtain rfl : i = 4 := by omega
                obtain rfl : t = 0 := hit rfl
                rw [show part4 (L.getD (16 * J + 4 * 4) 0) (L.getD (16 * J + 4 * 4 + 1) 0) (L.getD (16 * J + 4 * 4 + 2) 0) (L.getD (16 * J + 4 * 4 + 3) 0) 0 = 0 from rfl] at hs4
                have hbx := hs4.bx
                rw [mk4_end] at hbx
                have b0 := (hbx.cell 0).trans (dgv_get G 0 (by decide))
                have b1 := (hbx.cell 1).trans (dgv_get G 1 (by decide))
                have b2 := (hbx.cell 2).trans (dgv_get G 2 (by decide))
                have b3 := (hbx.cell 3).trans (dgv_get G 3 (by decide))
                simp only [wv] at b0 b1 b2 b3
                have hm := hs4.sg
                obtain ⟨⟨c0, c1, c2, c3, c4, c5, c6, c7⟩, y0, y1, y2, y3, y4, y5, y6, y7⟩ := hm.all
                have hpl := HP.out.below hm.bel HP.out.1
                clear hs4 hbx
                go_wp2_with fail
                refine (KT.out _ hpl).mono ?_
                rintro e w9 ⟨rfl, hb9⟩
                have hm9 := hm.below hb9
                clear hm hb9 hpl b0 b1 b2 b3 c0 c1 c2 c3 c4 c5 c6 c7 y0 y1 y2 y3 y4 y5 y6 y7
                obtain ⟨⟨c0, c1, c2, c3, c4, c5, c6, c7⟩, y0, y1, y2, y3, y4, y5, y6, y7⟩ := hm9.all
                go_wp2_with fail
                obtain ⟨Wf, hWf, hm10⟩ := hm9.fill R
                rw [← hWf]
                clear hm9 hWf c0 c1 c2 c3 c4 c5 c6 c7 y0 y1 y2 y3 y4 y5 y6 y7
                go_wp2_with fail
                go_roundw
                case rel => exact ⟨J + 1, hlJ, by go_num, by rw [HR.out]; exact hm10⟩
                case measure => simp [intOf]; omega
          · obtain rfl : J = q := by omega
            have hltJ : ¬ 16 * (J : Int) < M := by have := HM.out; omega
            obtain ⟨R, hR⟩ : ∃ R, spg (leAt L) J = R := ⟨_, rfl⟩
            rw [hR] at hm
            have k1 := fun (W : World) (h : Places W) => digest_Of s W h (by omega)
            rw [HO.out, hR] at k1
            unfold dgv at k1
            simp only [wv] at k1
            have K1 := Lib.hid k1
            have heq := eqD_run R R
            rw [show eqD R R = true from decide_eq_true ⟨rfl, rfl, rfl, rfl⟩] at heq
            unfold dgv at heq
            simp only [wv] at heq
            clear k1 hR
            obtain ⟨c0, c1, c2, c3, HI⟩ := hm.held
            clear hm
            go_wp2_with fail
            go_region_held3 (fun W => W.cell? ⟨g5, 0, none⟩ = some (.int .u32 (R 0).toNat) ∧ W.cell? ⟨g5, 1, none⟩ = some (.int .u32 (R 1).toNat) ∧ W.cell? ⟨g5, 2, none⟩ = some (.int .u32 (R 2).toNat) ∧ W.cell? ⟨g5, 3, none⟩ = some (.int .u32 (R 3).toNat) ∧ Sg w g5 b L R W) ((refine Sg.held ?_; repeat (first | assumption | (refine Sg.drew ?_))))
              ((first
                | (go_at_call 6; go_split_ands; (with_reducible refine (KA.out _ ?_ ?_).mono ?_); (exact HT.out.below (Sg.bel (w := w) (g := g5) (b := b) (L := L) (f := R) (by assumption)) HT.out.1); (exact HP.out.below (Sg.bel (w := w) (g := g5) (b := b) (L := L) (f := R) (by assumption)) HP.out.1); rintro e w6 ⟨rfl, hb6⟩; have I6 := Sg.below (w := w) (g := g5) (b := b) (L := L) (f := R) (by assumption) hb6)
                | (go_at_call 7; go_split_ands; (with_reducible refine (K1.out _ ?_).mono ?_); (exact HP.out.below (Sg.bel (w := w) (g := g5) (b := b) (L := L) (f := R) (by assumption)) HP.out.1); rintro e w6 ⟨rfl, hb6⟩; have I6 := Sg.below (w := w) (g := g5) (b := b) (L := L) (f := R) (by assumption) hb6)))
            go_split_ands
            go_wp2_with fail
            go_returns
            exact ⟨rfl, Sg.bel (w := w) (g := g5) (b := b) (L := L) (f := R) (by assumption)⟩
      · have hq8 : (((s.size : Int) + 1 + z) % 16 == 8) = false := by rw [beq_eq_false_iff_ne]; exact fun h => hlz (HZM.out z hz h)
        have hzZ : z < Z := by omega
        clear hlz
        go_wp2_with (at_builtin; refine wpList_append_gr rfl _ _ 28 rfl w.heap.size 5 (.int .u8 0) 1 Tryd.underlying28 info_u8 rfl _ _ _ rfl (hG.alloc _) _ 1 _ [.int .u8 0] rfl rfl (lit_cells _ _ #[.int .u8 0]) (by simp [Value.oneCell']) (by decide) (by omega) (by omega) (by simp; omega) ?_; intro v2 w2 hG2 hb2)
        have b4 := (hbel.alloc hbel.size (.cells #[.int .u8 0] 5)).trans hb2
        obtain ⟨g2, cap2, rfl⟩ := hG2.form
        go_roundw
        case rel =>
          refine ⟨z + 1, hzZ, ?_, b4⟩
          have e : (s.data.toList ++ (128 :: List.replicate (z + 1) 0)).map bv = (s.data.toList ++ (128 :: List.replicate z 0)).map bv ++ [.int .u8 0] := by
            rw [List.replicate_succ', List.map_append, List.map_append, List.map_cons, List.map_cons, List.map_append, List.append_assoc]
            rfl
          rw [e]
          exact hG2
        case measure => simp [lenV]; omega
end Go.Proofs.YtekpfpikbgiblaaDoor
