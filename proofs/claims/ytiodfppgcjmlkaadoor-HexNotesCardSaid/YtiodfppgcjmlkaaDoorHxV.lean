/- Layer 2: the laws' own texts, walked: dumps, back, notes. -/
import Derived.Test.YtiodfppgcjmlkaaDoorHxW
import Derived.Test.YtiodfppgcjmlkaaDoorHxF
namespace Go.Proofs.YtiodfppgcjmlkaaDoor
open Go.RowKit

set_option maxHeartbeats 1000000 in
theorem hexDumps_walk (s : ByteArray) (w : World) (hT : Tabs w) :
    Calls Tryd.prog 6 #[.string s] w fun e w' => e = .returned (.bool true) ∧ Below w.heap.size w w' := by
  by_cases hbig : 3000 < s.size
  · go_enter Tryd.func6, Tryd.ntmps6
    go_wp2_with fail
    refine (hx_awake _ hT).mono ?_
    rintro e w1 ⟨rfl, hb1⟩
    go_wp2_with fail
    go_returns
    exact ⟨rfl, hb1⟩
  · go_enter Tryd.func6, Tryd.ntmps6
    go_wp2_with fail
    refine (hx_awake _ hT).mono ?_
    rintro e w1 ⟨rfl, hb1⟩
    have T1 := hT.below hb1
    go_wp2_with fail
    refine (hex_Dump s _ (by omega) T1).mono ?_
    rintro e w2 ⟨⟨a, rfl, ha⟩, hb2⟩
    have bel2 := hb1.trans (hb2.mono hb1.size)
    clear hb1 hb2 T1
    go_wp2_with fail
    refine (ref_Dump s _ (by omega)).mono ?_
    rintro e w3 ⟨⟨b, rfl, hb⟩, hb3⟩
    have bel3 := bel2.trans (hb3.mono bel2.size)
    obtain rfl : b = a := ba_inj (by rw [ha.out, hb.out])
    clear hb3 bel2 ha hb
    go_wp2_with fail
    go_returns
    exact ⟨ret_bool (by simp), bel3⟩

theorem hasB_ne {l : List UInt8} {c : UInt8} {n : Nat} (hc : c.toNat = n) (h : hasB l c = false) : ∀ x ∈ l, x.toNat ≠ n := by subst hc; exact hasB_false h

set_option maxHeartbeats 2000000 in
theorem hexNotes_walk (a b n : ByteArray) (w : World) (hT : Tabs w) :
    Calls Tryd.prog 8 #[.string a, .string b, .string n] w fun e w' => e = .returned (.bool true) ∧ Below w.heap.size w w' := by
  have K1 : Hid (∀ W : World, a.size ≤ 1000 → Calls Tryd.prog 20 #[.string a, .int .u8 35] W fun e w' => e = .returned (.bool (hasB a.data.toList 35)) ∧ W = w') := fun W h => law_has a 35 W (by omega)
  have K2 : Hid (∀ W : World, n.size ≤ 1000 → Calls Tryd.prog 20 #[.string n, .int .u8 10] W fun e w' => e = .returned (.bool (hasB n.data.toList 10)) ∧ W = w') := fun W h => law_has n 10 W (by omega)
  have hcase : 1000 < a.size ∨ (a.size ≤ 1000 ∧ 1000 < b.size) ∨ (a.size ≤ 1000 ∧ b.size ≤ 1000 ∧ 1000 < n.size) ∨ (a.size ≤ 1000 ∧ b.size ≤ 1000 ∧ n.size ≤ 1000) := by omega
  rcases hcase with h1 | ⟨h1, h2⟩ | ⟨h1, h2, h3⟩ | ⟨h1, h2, h3⟩
  · go_enter Tryd.func8, Tryd.ntmps8
    go_wp2_with fail
    refine (hx_awake _ hT).mono ?_
    rintro e w1 ⟨rfl, hb1⟩
    go_wp2_with fail
    go_returns
    exact ⟨rfl, hb1⟩
  · go_enter Tryd.func8, Tryd.ntmps8
    go_wp2_with fail
    refine (hx_awake _ hT).mono ?_
    rintro e w1 ⟨rfl, hb1⟩
    go_wp2_with fail
    go_returns
    exact ⟨rfl, hb1⟩
  · go_enter Tryd.func8, Tryd.ntmps8
    go_wp2_with fail
    refine (hx_awake _ hT).mono ?_
    rintro e w1 ⟨rfl, hb1⟩
    go_wp2_with fail
    go_returns
    exact ⟨rfl, hb1⟩
  · go_enter Tryd.func8, Tryd.ntmps8
    go_wp2_with fail
    refine (hx_awake _ hT).mono ?_
    rintro e w1 ⟨rfl, hb1⟩
    have T1 := hT.below hb1
    go_wp2_with fail
    refine (K1.out _ h1).mono ?_
    rintro e w2 ⟨rfl, rfl⟩
    cases hA : hasB a.data.toList 35 with
    | true =>
      go_wp2_with fail
      go_returns
      exact ⟨rfl, hb1⟩
    | false =>
      have HA := Lib.hid (hasB_ne (n := 35) rfl hA)
      clear hA
      go_wp2_with fail
      refine (K2.out _ h3).mono ?_
      rintro e w2 ⟨rfl, rfl⟩
      cases hN : hasB n.data.toList 10 with
      | true =>
        go_wp2_with fail
        go_returns
        exact ⟨rfl, hb1⟩
      | false =>
        have HN := Lib.hid (hasB_ne (n := 10) rfl hN)
        clear hN
        have z1 : ∀ x y : ByteArray, (x ++ y).size = x.size + y.size := fun x y => ByteArray.size_append
        have S1 : Hid (((((a ++ ⟨#[35]⟩) ++ n) ++ ⟨#[10]⟩) ++ b : ByteArray).size ≤ 1000000000000) := by
          unfold Hid
          rw [z1, z1, z1, z1]
          show a.size + 1 + n.size + 1 + b.size ≤ _
          omega
        have S2 : Hid ((a ++ b : ByteArray).size ≤ 1000000000000) := by unfold Hid; rw [z1]; omega
        have S3 : Hid (((a ++ ⟨#[10]⟩) ++ b : ByteArray).size ≤ 1000000000000) := by
          unfold Hid
          rw [z1, z1]
          show a.size + 1 + b.size ≤ _
          omega
        have S4 : Hid (((a ++ ⟨#[122, 71, 45, 0]⟩) ++ b : ByteArray).size ≤ 1000000000000) := by
          unfold Hid
          rw [z1, z1]
          show a.size + 4 + b.size ≤ _
          omega
        have L1 : Hid (loadL ((((a ++ ⟨#[35]⟩) ++ n) ++ ⟨#[10]⟩) ++ b : ByteArray).data.toList = loadL (a ++ b).data.toList) := by
          unfold Hid
          rw [ba_append, ba_append, ba_append, ba_append, ba_append]
          exact load_note _ _ _ HA.out HN.out
        have L3 : Hid (loadL ((a ++ ⟨#[10]⟩) ++ b : ByteArray).data.toList = loadL (a ++ b).data.toList) := by
          unfold Hid
          rw [ba_append, ba_append, ba_append]
          exact load_between _ [10] _ HA.out (by decide) (by decide)
        have L4 : Hid (loadL ((a ++ ⟨#[122, 71, 45, 0]⟩) ++ b : ByteArray).data.toList = loadL (a ++ b).data.toList) := by
          unfold Hid
          rw [ba_append, ba_append, ba_append]
          exact load_between _ [122, 71, 45, 0] _ HA.out (by decide) (by decide)
        clear z1
        go_wp2_with fail
        refine (hex_Load _ _ S1.out T1.1).mono ?_
        rintro e w2 ⟨⟨t1, rfl, ht1⟩, hb2⟩
        have bel2 := hb1.trans (hb2.mono hb1.size)
        have T2 := T1.below hb2
        clear hb1 hb2 T1
        go_wp2_with fail
        refine (hex_Load _ _ S2.out T2.1).mono ?_
        rintro e w3 ⟨⟨t2, rfl, ht2⟩, hb3⟩
        have bel3 := bel2.trans (hb3.mono bel2.size)
        have T3 := T2.below hb3
        obtain rfl : t1 = t2 := ba_inj (by rw [ht1.out, ht2.out, L1.out])
        clear hb3 bel2 T2 ht1
        go_wp2_with fail
        refine (hex_Load _ _ S3.out T3.1).mono ?_
        rintro e w4 ⟨⟨t3, rfl, ht3⟩, hb4⟩
        have bel4 := bel3.trans (hb4.mono bel3.size)
        have T4 := T3.below hb4
        clear hb4 bel3 T3
        go_wp2_with fail
        refine (hex_Load _ _ S2.out T4.1).mono ?_
        rintro e w5 ⟨⟨t4, rfl, ht4⟩, hb5⟩
        have bel5 := bel4.trans (hb5.mono bel4.size)
        have T5 := T4.below hb5
        obtain rfl : t3 = t4 := ba_inj (by rw [ht3.out, ht4.out, L3.out])
        clear hb5 bel4 T4 ht3
        go_wp2_with fail
        refine (hex_Load _ _ S4.out T5.1).mono ?_
        rintro e w6 ⟨⟨t5, rfl, ht5⟩, hb6⟩
        have bel6 := bel5.trans (hb6.mono bel5.size)
        have T6 := T5.below hb6
        clear hb6 bel5 T5
        go_wp2_with fail
        refine (hex_Load _ _ S2.out T6.1).mono ?_
        rintro e w7 ⟨⟨t6, rfl, ht6⟩, hb7⟩
        have bel7 := bel6.trans (hb7.mono bel6.size)
        obtain rfl : t5 = t6 := ba_inj (by rw [ht5.out, ht6.out, L4.out])
        clear hb7 bel6 T6 ht5
        go_wp2_with fail
        go_returns
        exact ⟨ret_bool (by simp), bel7⟩
end Go.Proofs.YtiodfppgcjmlkaaDoor
