/- ImagePrefix: the law's own text, walked. -/
import Derived.Test.YtphejmeihojabaaLawIPrefL
namespace Go.Proofs.Ytphejmeihojabaa
open Go.RowKit

set_option maxHeartbeats 12000000 in
theorem prefix_walk (xs ys : List UInt32) (A B : Option Addr) (c1 c2 : Nat) (d1 d2 : Int) (w : World) (hx : Sl w w.heap.size A xs.length (xs.map wv)) (hy : Sl w w.heap.size B ys.length (ys.map wv)) :
    Calls Try.prog 6 #[.agg #[.slice A xs.length c1, .int .i64 d1], .agg #[.slice B ys.length c2, .int .i64 d2]] w fun e w' => e = .returned (.bool true) ∧ Below w.heap.size w w' := by
  by_cases hbig : 500 < xs.length ∨ 500 < ys.length
  · have hc : 500 < xs.length ∨ (xs.length ≤ 500 ∧ 500 < ys.length) := by omega
    clear hbig
    rcases hc with hc | ⟨hc, hc2⟩
    all_goals
      go_enter Try.func6, Try.ntmps6
      go_wp2_with fail
      refine (img_awake _).mono ?_
      rintro e w1 ⟨rfl, hb1⟩
      have I1 := (Im2.new w (.slice A xs.length c1) d1 (.slice B ys.length c2) d2).below hb1
      obtain ⟨a0, a1, b0, b1, _⟩ := I1.all
      clear hb1
      go_wp2_with fail
      go_returns
      exact ⟨rfl, I1.bel⟩
  · have h1 : xs.length ≤ 500 := by omega
    have h2 : ys.length ≤ 500 := by omega
    clear hbig
    by_cases hlg : ys.length < xs.length ∧ rightB xs.length d1 = true ∧ rightB ys.length d2 = true
    · exact prefix_longer xs ys A B c1 c2 d1 d2 w hx hy h1 h2 hlg.2.1 hlg.2.2 hlg.1
    have HLG := Lib.hid hlg
    clear hlg
    go_enter Try.func6, Try.ntmps6
    go_wp2_with fail
    refine (img_awake _).mono ?_
    rintro e w1 ⟨rfl, hb1⟩
    have I1 := (Im2.new w (.slice A xs.length c1) d1 (.slice B ys.length c2) d2).below hb1
    obtain ⟨a0, a1, b0, b1, _⟩ := I1.all
    clear hb1
    go_wp2_with fail
    refine (ref_Right A xs.length c1 d1 _).mono ?_
    rintro e w2 ⟨rfl, hb2⟩
    have I2 := I1.below hb2
    clear I1 a0 a1 b0 b1 hb2
    obtain ⟨a0, a1, b0, b1, _⟩ := I2.all
    cases hr1 : rightB xs.length d1 with
    | false =>
      go_wp2_with fail
      go_returns
      exact ⟨rfl, I2.bel⟩
    | true =>
      have HR1 := Lib.hid hr1
      clear hr1
      go_wp2_with fail
      refine (ref_Right B ys.length c2 d2 _).mono ?_
      rintro e w3 ⟨rfl, hb3⟩
      have I3 := I2.below hb3
      clear I2 a0 a1 b0 b1 hb3
      obtain ⟨a0, a1, b0, b1, _⟩ := I3.all
      cases hr2 : rightB ys.length d2 with
      | false =>
        go_wp2_with fail
        go_returns
        exact ⟨rfl, I3.bel⟩
      | true =>
        have HR2 := Lib.hid hr2
        clear hr2
        go_wp2_with fail
        refine (image_Put A xs c1 d1 _ ((hx.below I3.bel).more I3.bel.size) HR1.out).mono ?_
        rintro e w4 ⟨⟨s, rfl, hs⟩, hb4⟩
        have I4 := I3.below hb4
        clear I3 a0 a1 b0 b1 hb4
        obtain ⟨a0, a1, b0, b1, _⟩ := I4.all
        go_wp2_with fail
        refine (image_Put B ys c2 d2 _ ((hy.below I4.bel).more I4.bel.size) HR2.out).mono ?_
        rintro e w5 ⟨⟨t, rfl, ht⟩, hb5⟩
        have I5 := I4.below hb5
        clear I4 a0 a1 b0 b1 hb5
        obtain ⟨a0, a1, b0, b1, _⟩ := I5.all
        go_wp2_with fail
        clear a0 a1 b0 b1
        have hle : s.size ≤ t.size := by
          have hs12 : s.size = 12 + 4 * xs.length := by have h := congrArg List.length hs.out; rwa [put_length] at h
          have ht12 : t.size = 12 + 4 * ys.length := by have h := congrArg List.length ht.out; rwa [put_length] at h
          by_cases hq : ys.length < xs.length
          · exact absurd ⟨hq, HR1.out, HR2.out⟩ HLG.out
          · omega
        · have hleI : (s.size : Int) ≤ t.size := by omega
          by_cases hpre : t.extract 0 s.size = s
          · obtain ⟨he1, he2⟩ := put_prefix HR1.out HR2.out (by rw [← ht.out, ← hs.out, show s.data.toList.length = s.size from rfl]; exact (Lib.extract_data t 0 s.size).symm.trans (by rw [hpre]))
            have hq : sameB xs ys d1 d2 = true := decide_eq_true ⟨he2, he1⟩
            have HQ := Lib.hid hq
            clear he1 he2 hq
            go_region_held3 (fun w' => w'.cell? ⟨w.heap.size, 0, none⟩ = some (.slice A xs.length c1) ∧ w'.cell? ⟨w.heap.size, 1, none⟩ = some (.int .i64 d1) ∧ w'.cell? ⟨w.heap.size + 1, 0, none⟩ = some (.slice B ys.length c2) ∧ w'.cell? ⟨w.heap.size + 1, 1, none⟩ = some (.int .i64 d2) ∧ Im2 w (.slice A xs.length c1) d1 (.slice B ys.length c2) d2 w') ((refine Im2.all ?_; repeat (first | assumption | (refine Im2.drew ?_) | (refine Im2.alloc ?_ _))))
              ((first
                | (go_at_call 14; (with_reducible refine (refI_Same xs ys A B c1 c2 d1 d2 _ ?_ ?_ ?_).mono ?_); (exact (hx.below I5.drew.bel).more I5.drew.bel.size); (exact (hy.below I5.drew.bel).more I5.drew.bel.size); (omega); rintro e w6 ⟨rfl, hb6⟩; have I6 := I5.drew.below hb6; rw [HQ.out])))
            go_wp2_with fail
            go_returns
            exact ⟨ret_bool (by simp), I6.bel⟩
          · have hq : sameB xs ys d1 d2 = false := decide_eq_false (fun h => by
              have e : t = s := ba_inj (by rw [hs.out, ht.out, h.1, h.2])
              exact hpre (by rw [e]; exact ba_inj ((Lib.extract_data s 0 s.size).trans (List.take_of_length_le (Nat.le_refl _)))))
            have HQ := Lib.hid hq
            clear hq
            go_region_held3 (fun w' => w'.cell? ⟨w.heap.size, 0, none⟩ = some (.slice A xs.length c1) ∧ w'.cell? ⟨w.heap.size, 1, none⟩ = some (.int .i64 d1) ∧ w'.cell? ⟨w.heap.size + 1, 0, none⟩ = some (.slice B ys.length c2) ∧ w'.cell? ⟨w.heap.size + 1, 1, none⟩ = some (.int .i64 d2) ∧ Im2 w (.slice A xs.length c1) d1 (.slice B ys.length c2) d2 w') ((refine Im2.all ?_; repeat (first | assumption | (refine Im2.drew ?_) | (refine Im2.alloc ?_ _))))
              ((first
                | (go_at_call 14; (with_reducible refine (refI_Same xs ys A B c1 c2 d1 d2 _ ?_ ?_ ?_).mono ?_); (exact (hx.below I5.drew.bel).more I5.drew.bel.size); (exact (hy.below I5.drew.bel).more I5.drew.bel.size); (omega); rintro e w6 ⟨rfl, hb6⟩; have I6 := I5.drew.below hb6; rw [HQ.out])))
            go_wp2_with fail
            go_returns
            exact ⟨ret_bool (by simp; intro h; rw [Lib.toList_data, Lib.toList_data] at h; exact hpre (ba_inj h)), I6.bel⟩
end Go.Proofs.Ytphejmeihojabaa
