/- DigestReads: the law's own text, walked. -/
import Derived.Test.YtbhibkhmjdleoaaDoorDgO
import Derived.Test.YtbhibkhmjdleoaaDoorDgN
import Derived.Test.YtbhibkhmjdleoaaDoorDgW
namespace Go.Proofs.YtbhibkhmjdleoaaDoor
open Go.RowKit

/-- The tables as they were laid, through calls. -/
structure Tb (w W : World) : Prop where
  sm : Small W
  pl : Places W
  bel : Below w.heap.size w W
section
variable {w W W' : World}
theorem Tb.new (w : World) (hT : Small w) (hP : Places w) : Tb w w := ⟨hT, hP, Below.refl _ _⟩
theorem Tb.below (h : Tb w W) (hb : Below W.heap.size W W') : Tb w W' := ⟨h.sm.below hb h.sm.1, h.pl.below hb h.pl.1, h.bel.trans (hb.mono h.bel.size)⟩
theorem Tb.alloc (h : Tb w W) (o : Obj) : Tb w (W.alloc o) := h.below ((Below.refl _ W).alloc (Nat.le_refl _) o)
end

set_option maxHeartbeats 2000000 in
theorem reads_walk (s : ByteArray) (w : World) (hT : Small w) (hP : Places w) :
    Calls Tryd.prog 6 #[.string s] w fun e w' => e = .returned (.bool true) ∧ Below w.heap.size w w' := by
  by_cases hbig : 80 < s.size
  · go_enter Tryd.func6, Tryd.ntmps6
    go_wp2_with fail
    refine (dg_awake _ hT hP).mono ?_
    rintro e w1 ⟨rfl, hb1⟩
    go_wp2_with fail
    go_returns
    exact ⟨rfl, hb1⟩
  by_cases hok : s.size = 32 ∧ (parseI s.data.toList).2.2 = true
  · obtain ⟨h32, hp⟩ := hok
    obtain ⟨hdig, hpar, hpairs⟩ := parse_ok_all hp
    have hl16 : (parseI s.data.toList).1.length = 16 := parse_len h32 hp
    have HP := Lib.hid hp
    obtain ⟨F, hF⟩ : ∃ F, deB (parseI s.data.toList).1 = F := ⟨_, rfl⟩
    have hFt : hexT (beB F) = s.data.toList.map lowB := by rw [← hF, beB_deB _ hl16, hpairs, hexT_pairs _ hdig hpar]
    have HFT := Lib.hid hFt
    have H32 := Lib.hid h32
    have e1 : ∀ W : World, (Op.equalIn 10000 29 (.agg #[.int .u32 (F 0).toNat, .int .u32 (F 1).toNat, .int .u32 (F 2).toNat, .int .u32 (F 3).toNat]) (.agg #[.int .u32 (F 0).toNat, .int .u32 (F 1).toNat, .int .u32 (F 2).toNat, .int .u32 (F 3).toNat])).run Tryd.prog W = .ok true W := fun W => (eqD_run F F W).trans (by rw [show eqD F F = true from decide_eq_true ⟨rfl, rfl, rfl, rfl⟩])
    have K1 : Hid (∀ W, Small W → Calls Tryd.prog 17 #[.string s] W fun e w' => e = .returned (.tuple #[.agg #[.int .u32 (F 0).toNat, .int .u32 (F 1).toNat, .int .u32 (F 2).toNat, .int .u32 (F 3).toNat], .int .i64 0]) ∧ Below W.heap.size W w') := fun W h => by rw [← hF]; exact digest_Parse_ok s W h32 h HP
    have K2 : Hid (∀ W, Calls Tryd.prog 19 #[.string s] W fun e w' => e = .returned (.tuple #[.agg #[.int .u32 (F 0).toNat, .int .u32 (F 1).toNat, .int .u32 (F 2).toNat, .int .u32 (F 3).toNat], .int .i64 0]) ∧ Below W.heap.size W w') := fun W => by rw [← hF]; exact ref_dParse_ok s W h32 HP
    have K3 : Hid (∀ W, Small W → Calls Tryd.prog 16 #[.agg #[.int .u32 (F 0).toNat, .int .u32 (F 1).toNat, .int .u32 (F 2).toNat, .int .u32 (F 3).toNat]] W fun e w' => (∃ t, e = .returned (.string t) ∧ Hid (t.data.toList = hexT (beB F))) ∧ Below W.heap.size W w') := fun W h => digest_Text F W h
    clear hdig hpar hpairs hl16 hF hFt hp h32
    have hA := Tb.new w hT hP
    go_enter Tryd.func6, Tryd.ntmps6
    go_wp2_with fail
    refine (K1.out _ hA.sm).mono ?_
    rintro e w1 ⟨rfl, hb1⟩
    have h1 := hA.below hb1
    clear hb1 hA
    go_wp2_with fail
    refine (K2.out _).mono ?_
    rintro e w2 ⟨rfl, hb2⟩
    have hX2 := (Blk.new w1 29 #[.int .u32 (F 0).toNat, .int .u32 (F 1).toNat, .int .u32 (F 2).toNat, .int .u32 (F 3).toNat]).below hb2 (by simp)
    have h2 := (h1.alloc _).below hb2
    have x0 := hX2.cell 0
    have x1 := hX2.cell 1
    have x2 := hX2.cell 2
    have x3 := hX2.cell 3
    have hlt2 := hX2.lt
    clear hb2
    go_wp2_with fail
    refine (K3.out _ (h2.alloc _).sm).mono ?_
    rintro e w3 ⟨⟨t, rfl, ht⟩, hb3⟩
    have h3 := (h2.alloc _).below hb3
    have hts : t.size = s.size := by have h := congrArg List.length (ht.out.trans HFT.out); rw [List.length_map] at h; exact h
    have hs32 : s.size ≤ 32 := by have := H32.out; omega
    have HY : Hid (∀ k (h1 : k < s.size) (h2 : k < t.size), (t[k]'h2).toNat = lowN (s[k]'h1)) := by
      intro k h1 h2
      have hl := ht.out.trans HFT.out
      have e : t.data.toList[k]'h2 = lowB (s.data.toList[k]'h1) := by
        simp only [hl, List.getElem_map]
      have e2 : t[k]'h2 = t.data.toList[k]'h2 := rfl
      have e3 : s[k]'h1 = s.data.toList[k]'h1 := rfl
      rw [e2, e3, e, lowB_toNat]
    have HTS := Lib.hid hts
    clear x0 x1 x2 x3 hX2 hb3 h1 h2 hlt2 e1 hts
    go_wp2_with fail
    go_loop [8] (fun i => ∃ k : Nat, k ≤ s.size ∧ i = .int .i64 k) (fun i => s.size - (intOf i).toNat)
    case atStart => exact ⟨0, Nat.zero_le _, rfl⟩
    case round =>
      obtain ⟨k, hk, rfl⟩ := hrel
      by_cases hlt : k < s.size
      · have hltT : k < t.size := by have := HTS.out; omega
        have hxy := HY.out k hlt hltT
        obtain ⟨x, hx⟩ : ∃ x, s[k] = x := ⟨_, rfl⟩
        obtain ⟨y, hy⟩ : ∃ y, t[k] = y := ⟨_, rfl⟩
        rw [hx, hy] at hxy
        have hltI : (k : Int) < s.size := by omega
        have hltTI : (k : Int) < t.size := by omega
        have hk0 : (0 : Int) ≤ k := by omega
        have hx8 := x.toNat_lt
        have hcase : (65 ≤ x.toNat ∧ x.toNat ≤ 70) ∨ (65 ≤ x.toNat ∧ 70 < x.toNat) ∨ x.toNat < 65 := by omega
        unfold lowN at hxy
        rcases hcase with ⟨u1, u2⟩ | ⟨u1, u2⟩ | u1
        · rw [if_pos ⟨u1, u2⟩] at hxy
          have hq : ((y.toNat : Int) != (x.toNat : Int) + 32) = false := by rw [bne_eq_false_iff_eq]; omega
          clear hxy
          go_wp2_with fail
          go_round
          case rel => exact ⟨k + 1, hlt, rfl⟩
          case measure => simp [intOf]; omega
        · rw [if_neg (by omega)] at hxy
          have hq : ((y.toNat : Int) != (x.toNat : Int)) = false := by rw [bne_eq_false_iff_eq]; omega
          clear hxy
          go_wp2_with fail
          go_round
          case rel => exact ⟨k + 1, hlt, rfl⟩
          case measure => simp [intOf]; omega
        · rw [if_neg (by omega)] at hxy
          have hq : ((y.toNat : Int) != (x.toNat : Int)) = false := by rw [bne_eq_false_iff_eq]; omega
          clear hxy
          go_wp2_with fail
          go_round
          case rel => exact ⟨k + 1, hlt, rfl⟩
          case measure => simp [intOf]; omega
      · obtain rfl : k = s.size := by omega
        go_wp2_with fail
        refine (dg_awake _ h3.sm h3.pl).mono ?_
        rintro e w4 ⟨rfl, hb4⟩
        have h4 := h3.below hb4
        clear hb4 h3
        go_wp2_with fail
        go_returns
        exact ⟨rfl, h4.bel⟩
  · have hor : (parseI s.data.toList).2.2 = false ∨ s.size ≠ 32 := by
      by_cases h : s.size = 32
      · exact .inl (by cases hp : (parseI s.data.toList).2.2 with | false => rfl | true => exact absurd ⟨h, hp⟩ hok)
      · exact .inr h
    have HOR := Lib.hid hor
    have K1 : Hid (∀ W, Small W → Calls Tryd.prog 17 #[.string s] W fun e w' => e = .returned (.tuple #[.agg #[.int .u32 0, .int .u32 0, .int .u32 0, .int .u32 0], .int .i64 3]) ∧ Below W.heap.size W w') := by
      intro W h
      by_cases h32 : s.size = 32
      · exact digest_Parse_bad s W h32 h (by rcases hor with h | h; exact h; exact absurd h32 h)
      · exact digest_Parse_short s W h32
    have K2 : Hid (∀ W, Calls Tryd.prog 19 #[.string s] W fun e w' => e = .returned (.tuple #[.agg #[.int .u32 0, .int .u32 0, .int .u32 0, .int .u32 0], .int .i64 3]) ∧ Below W.heap.size W w') := fun W => ref_dParse_bad s W (by omega) HOR
    have e1 : ∀ W : World, (Op.equalIn 10000 29 (.agg #[.int .u32 0, .int .u32 0, .int .u32 0, .int .u32 0]) (.agg #[.int .u32 0, .int .u32 0, .int .u32 0, .int .u32 0])).run Tryd.prog W = .ok true W := fun W => by kernel_rfl
    clear hor hok
    have hA := Tb.new w hT hP
    go_enter Tryd.func6, Tryd.ntmps6
    go_wp2_with fail
    refine (K1.out _ hA.sm).mono ?_
    rintro e w1 ⟨rfl, hb1⟩
    have h1 := hA.below hb1
    clear hb1 hA
    go_wp2_with fail
    refine (K2.out _).mono ?_
    rintro e w2 ⟨rfl, hb2⟩
    have hX2 := (Blk.new w1 29 #[.int .u32 0, .int .u32 0, .int .u32 0, .int .u32 0]).below hb2 (by simp)
    have h2 := (h1.alloc _).below hb2
    have x0 := hX2.cell 0
    have x1 := hX2.cell 1
    have x2 := hX2.cell 2
    have x3 := hX2.cell 3
    have hlt2 := hX2.lt
    clear hb2
    go_wp2_with fail
    refine (dg_awake _ (h2.alloc _).sm (h2.alloc _).pl).mono ?_
    rintro e w3 ⟨rfl, hb3⟩
    have h3 := (h2.alloc _).below hb3
    clear hb3
    go_wp2_with fail
    go_returns
    exact ⟨rfl, h3.bel⟩
end Go.Proofs.YtbhibkhmjdleoaaDoor
