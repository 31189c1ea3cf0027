/- ImageGoesOn: the law's own text, walked. -/
import Derived.Test.YtphejmeihojabaaImgA
import Derived.Test.YtphejmeihojabaaImgN
namespace Go.Proofs.Ytphejmeihojabaa
open Go.RowKit

theorem own_box (w : World) (B E : Nat) (hB : B ≤ w.heap.size) : (w.alloc (.cells #[] E)).ownsRow B E 1 (.slice (some ⟨w.heap.size, 0, none⟩) 0 0) 0 [] :=
  ⟨rfl, .inr ⟨w.heap.size, 0, #[], rfl, hB, heap_alloc_new w _, Nat.le_refl _, by unfold maxLen; omega, rfl, rfl⟩⟩

theorem goes_head {s t : ByteArray} {xs ys : List UInt32} {d : Int} (hs : s.data.toList = putI xs d) (ht : t.data.toList = putI (xs ++ ys) d) : t.extract 0 4 = s.extract 0 4 := by
  refine ba_inj ?_
  rw [Lib.extract_data, Lib.extract_data, hs, ht]
  show List.take 4 (putI (xs ++ ys) d) = List.take 4 (putI xs d)
  rw [put_take4, put_take4]
theorem goes_tail {s t : ByteArray} {xs ys : List UInt32} {d : Int} (hz : s.size = 12 + 4 * xs.length) (hs : s.data.toList = putI xs d) (ht : t.data.toList = putI (xs ++ ys) d) : t.extract 8 s.size = s.extract 8 s.size := by
  refine ba_inj ?_
  rw [Lib.extract_data, Lib.extract_data, hs, ht, hz, show 12 + 4 * xs.length - 8 = 4 + 4 * xs.length by omega, put_behind, List.take_of_length_le]
  rw [List.length_drop, put_length]
  omega
theorem Im1.below2 {w : World} {v : Value} {d : Int} {W W' : World} (h : Im1 w v d W) (hb : Below (w.heap.size + 1) W W') : Im1 w v d W' := ⟨h.a.below hb (Nat.lt_succ_self _), h.bel.trans (hb.mono (Nat.le_succ _))⟩
set_option maxHeartbeats 2000000 in
theorem goes_walk (xs ys : List UInt32) (A A' : Option Addr) (c c' : Nat) (d : Int) (w : World) (hx : Sl w w.heap.size A xs.length (xs.map wv)) (hy : Sl w w.heap.size A' ys.length (ys.map wv)) :
    Calls Try.prog 7 #[.agg #[.slice A xs.length c, .int .i64 d], .slice A' ys.length c'] w fun e w' => e = .returned (.bool true) ∧ Below w.heap.size w w' := by
  by_cases hbig : 500 < xs.length ∨ 500 < ys.length
  · have hc : 500 < xs.length ∨ (xs.length ≤ 500 ∧ 500 < ys.length) := by omega
    clear hbig
    rcases hc with hc | ⟨hc, hc2⟩
    all_goals
      go_enter Try.func7, Try.ntmps7
      go_wp2_with fail
      refine (img_awake _).mono ?_
      rintro e w1 ⟨rfl, hb1⟩
      have I1 := (Im1.new w (.slice A xs.length c) d).below hb1
      obtain ⟨a0, a1, _⟩ := I1.all
      clear hb1
      go_wp2_with fail
      go_returns
      exact ⟨rfl, I1.bel⟩
  · have h1 : xs.length ≤ 500 := by omega
    have h2 : ys.length ≤ 500 := by omega
    clear hbig
    go_enter Try.func7, Try.ntmps7
    go_wp2_with fail
    refine (img_awake _).mono ?_
    rintro e w1 ⟨rfl, hb1⟩
    have I1 := (Im1.new w (.slice A xs.length c) d).below hb1
    obtain ⟨a0, a1, _⟩ := I1.all
    clear hb1
    go_wp2_with fail
    refine (ref_Right A xs.length c d _).mono ?_
    rintro e w2 ⟨rfl, hb2⟩
    have I2 := I1.below hb2
    clear I1 a0 a1 hb2
    obtain ⟨a0, a1, _⟩ := I2.all
    cases hr1 : rightB xs.length d with
    | false =>
      go_wp2_with fail
      go_returns
      exact ⟨rfl, I2.bel⟩
    | true =>
      have HR := Lib.hid hr1
      clear hr1
      go_wp2_with fail
      refine (image_Put A xs c d _ ((hx.below I2.bel).more I2.bel.size) HR.out).mono ?_
      rintro e w3 ⟨⟨s, rfl, hs⟩, hb3⟩
      have I3 := I2.below hb3
      clear I2 a0 a1 hb3
      obtain ⟨a0, a1, _⟩ := I3.all
      have hr2 : rightB (xs ++ ys).length d = true := by
        obtain ⟨_, q2, q3⟩ := of_decide_eq_true HR.out
        exact decide_eq_true ⟨by rw [List.length_append]; omega, q2, q3⟩
      have KP : Hid (∀ (A3 : Option Addr) (c3 : Nat) (W : World), Sl W W.heap.size A3 (0 + xs.length + ys.length) ([] ++ xs.map wv ++ ys.map wv) →
          Calls Try.prog 11 #[.agg #[.slice A3 (xs.length + ys.length) c3, .int .i64 d]] W fun e w' => (∃ s, e = .returned (.tuple #[.string s, .int .i64 0]) ∧ Hid (s.data.toList = putI (xs ++ ys) d)) ∧ Below W.heap.size W w') := by
        intro A3 c3 W hS3
        have q := image_Put A3 (xs ++ ys) c3 d W (by rw [List.length_append, List.map_append]; simpa using hS3) hr2
        rw [List.length_append] at q
        exact q
      clear hr2
      have l3 := I3.a.lt
      go_wp2_with fail
      go_region_law ((first
        | (refine step_append_sl rfl _ _ 22 rfl (w.heap.size + 1) 36 (.int .u32 0) 4 Try.underlying22 info_u32 rfl _ 0 [] rfl (own_box w3.drew _ _ (by exact l3)) A xs.length c (xs.map wv) rfl ((hx.below ((I3.drew.alloc _).bel)).more (I3.drew.alloc _).bel.size) (wv_oneCell xs) (by omega) (by omega) (by simp; omega) ?_; intro v4 w4 hown4 hb4; have I4 := (I3.drew.alloc (.cells #[] 36)).below2 hb4; obtain ⟨a0, a1, _⟩ := I4.all; have l4 := I4.a.lt)
        | (refine step_append_sl rfl _ _ 22 rfl (w.heap.size + 1) 36 (.int .u32 0) 4 Try.underlying22 info_u32 rfl _ (0 + xs.length) _ rfl hown4 A' ys.length c' (ys.map wv) rfl ((hy.below I4.bel).more I4.bel.size) (wv_oneCell ys) (by omega) (by omega) (by exact l4) ?_; intro v5 w5 hown5 hb5; have I5 := I4.below2 hb5; obtain ⟨A3, c3, rfl, _, _, hS3⟩ := Sl.of_own hown5; obtain ⟨a0, a1, _⟩ := I5.all)
        | (refine step_call rfl 11 #[.agg #[.slice A3 (xs.length + ys.length) c3, .int .i64 d]] _ (by as_aux_lemma => kernel_rfl) (KP.out A3 c3 _ hS3) ?_; rintro e w6 ⟨⟨t, rfl, ht⟩, hb6⟩; have I6 := I5.below hb6; obtain ⟨a0, a1, _⟩ := I6.all; refine ⟨_, rfl, ?_⟩)))
      all_goals
        have hsz : s.size = 12 + 4 * xs.length := by have h := congrArg List.length hs.out; rwa [put_length] at h
        have htz : t.size = 12 + 4 * (xs.length + ys.length) := by have h := congrArg List.length ht.out; rwa [put_length, List.length_append] at h
        have e1 : t.extract 0 4 = s.extract 0 4 := goes_head hs.out ht.out
        have e2 : t.extract 8 s.size = s.extract 8 s.size := goes_tail hsz hs.out ht.out
        have f1 : (12 : Int) ≤ s.size := by omega
        have f2 : (4 : Int) ≤ t.size := by omega
        have f3 : (4 : Int) ≤ s.size := by omega
        have f4 : (8 : Int) ≤ s.size := by omega
        have f5 : (s.size : Int) ≤ t.size := by omega
        have f6 : IntKind.i64.wrap (4 * (ys.length : Int)) = 4 * (ys.length : Int) := IntWalk.i64_in _ (by omega)
        have f7 : IntKind.i64.wrap ((s.size : Int) + 4 * (ys.length : Int)) = (s.size : Int) + 4 * (ys.length : Int) := IntWalk.i64_in _ (by omega)
        have f8 : ((t.size : Int) == (s.size : Int) + 4 * (ys.length : Int)) = true := by rw [beq_iff_eq]; omega
        clear hsz htz hown4 hown5 hS3 hb4 hb5 hb6 KP a0 a1
        go_wp2_with fail
        go_quiet (fail)
        go_wp2_with fail
        go_returns
        first | exact ⟨ret_bool (by simp), I6.bel⟩ | exact ⟨ret_bool (by simp), below_drewN I6.bel _⟩ | exact ⟨ret_bool (by simp), I6.drew.bel⟩
end Go.Proofs.Ytphejmeihojabaa
