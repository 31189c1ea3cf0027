/- Layer 50: the laws' fixed fact; SeedLoads, SeedSmall; walked. -/
import Derived.Test.YtepgnnlihnajeaaSdW
namespace Go.Proofs.Ytepgnnlihnajeaa
open Go.RowKit

theorem awake_any (w : World) : Calls Try.prog 8 #[] w fun e w' => e = .returned (.bool true) ∧ Below w.heap.size w w' := by
  have K0 := Lib.hid seed_Image
  go_enter Try.func8, Try.ntmps8
  go_wp2_with fail
  refine (K0.out _).mono ?_
  rintro e w1 ⟨⟨s, rfl, hs⟩, hb1⟩
  have hz := seed_size hs.out
  have hd : (s.size : Int) ≤ 160 := by omega
  clear hz
  go_wp2_with fail
  refine (K0.out _).mono ?_
  rintro e w2 ⟨⟨s2, rfl, hs2⟩, hb2⟩
  go_wp2_with fail
  refine (ref_Loads s2 _ _ hs2.out (by decide)).mono ?_
  rintro e w3 ⟨rfl, hb3⟩
  go_wp2_with fail
  go_returns
  exact ⟨rfl, (hb1.trans (hb2.mono hb1.size)).trans (hb3.mono (Nat.le_trans hb1.size hb2.size))⟩

theorem seedLoads_walk (t : ByteArray) (w : World) :
    Calls Try.prog 3 #[.string t] w fun e w' => e = .returned (.bool true) ∧ Below w.heap.size w w' := by
  have K0 := Lib.hid seed_Image
  have KA := Lib.hid awake_any
  by_cases hs : 300 < t.size
  · have hI : (300 : Int) < t.size := by omega
    clear hs
    go_enter Try.func3, Try.ntmps3
    go_wp2_with fail
    refine (KA.out _).mono ?_
    rintro e w1 ⟨rfl, hb1⟩
    go_wp2_with fail
    go_returns
    exact ⟨rfl, hb1⟩
  · have hI : ¬ (300 : Int) < t.size := by omega
    have hle : t.size ≤ 20000 := by omega
    clear hs
    go_enter Try.func3, Try.ntmps3
    go_wp2_with fail
    refine (KA.out _).mono ?_
    rintro e w1 ⟨rfl, hb1⟩
    go_wp2_with fail
    refine (K0.out _).mono ?_
    rintro e w2 ⟨⟨s2, rfl, hs2⟩, hb2⟩
    go_wp2_with fail
    refine (ref_Loads s2 t _ hs2.out hle).mono ?_
    rintro e w3 ⟨rfl, hb3⟩
    go_wp2_with fail
    go_returns
    exact ⟨rfl, (hb1.trans (hb2.mono hb1.size)).trans (hb3.mono (Nat.le_trans hb1.size hb2.size))⟩

theorem seedSmall_walk (w : World) :
    Calls Try.prog 4 #[] w fun e w' => e = .returned (.bool true) ∧ Below w.heap.size w w' := by
  have K0 := Lib.hid seed_Image
  have KA := Lib.hid awake_any
  go_enter Try.func4, Try.ntmps4
  go_wp2_with fail
  refine (K0.out _).mono ?_
  rintro e w1 ⟨⟨s, rfl, hs⟩, hb1⟩
  go_wp2_with fail
  refine (refRead_ok s seedW 0 w1 (by rw [hs.out]; exact put_read (by decide))).mono ?_
  rintro e w2 ⟨⟨v, rfl, hown⟩, hb2⟩
  obtain ⟨A, c, rfl, -, -, -⟩ := Sl.of_own hown
  rw [seedW_len]
  have hz := Blk.new w2 28 #[.slice A 34 c, .int .i64 0]
  have hb3 := (hb1.trans (hb2.mono hb1.size)).alloc (Nat.le_trans hb1.size hb2.size) (.cells #[.slice A 34 c, .int .i64 0] 28)
  have HZ := Lib.hid hz
  have HB := Lib.hid hb3
  clear hown hb1 hb2 hz hb3
  go_wp2_with fail
  refine (KA.out _).mono ?_
  rintro e w3 ⟨rfl, hb4⟩
  have hc : w3.cell? ⟨w2.heap.size, 0, none⟩ = some (.slice A 34 c) := (HZ.out.below hb4 HZ.out.lt).cell 0
  go_wp2_with fail
  go_returns
  exact ⟨rfl, HB.out.trans (hb4.mono HB.out.size)⟩
end Go.Proofs.Ytepgnnlihnajeaa
