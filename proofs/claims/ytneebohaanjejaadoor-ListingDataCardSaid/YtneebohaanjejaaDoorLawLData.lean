/- The law ListingData, walked. -/
import Derived.Test.YtneebohaanjejaaDoorLk
namespace Go.Proofs.YtneebohaanjejaaDoor
open Go.RowKit

theorem data_rest {code : List UInt32} {d : Nat} {s : ByteArray} (hs : s.data.toList = textT code d) : s.size = 7 + (Lib.decDigits d).length + (restT code).length ∧ (s.extract (7 + (Lib.decDigits d).length) s.size).toList = restT code := by
  have e : s.data.toList.length = s.size := rfl
  rw [hs, text_rest] at e
  unfold hdrL at e
  simp only [List.length_append, List.length_cons, List.length_nil] at e
  refine ⟨by omega, ?_⟩
  rw [Lib.extract_toList, hs, text_rest]
  have hd : (hdrL d ++ ([10] ++ restT code)).drop (7 + (Lib.decDigits d).length) = restT code := by
    rw [← List.append_assoc]
    apply List.drop_left'
    unfold hdrL
    simp only [List.length_append, List.length_cons, List.length_nil]
    omega
  rw [hd]
  exact List.take_of_length_le (by omega)

set_option maxHeartbeats 1000000 in
theorem ldata_walk (code : List UInt32) (A : Option Addr) (c : Nat) (d : Int) (f : Nat) (w : World) (hf : f ≤ 65535) (hA : Sl w w.heap.size A code.length (code.map wv)) (hp : Pow10 w) :
    Calls Tryd.prog 10 #[.agg #[.slice A code.length c, .int .i64 d], .int .u16 (f : Int)] w fun e w' => e = .returned (.bool true) ∧ Below w.heap.size w w' := by
  have KA := Lib.hid ls_awake
  have T0 := Tg.new w A code.length c d
  have hp0 := hp.below T0.bel
  have KX := Lib.hid (fun W => ref_Right A code.length c d W)
  by_cases hbig : 100 < code.length
  · have hI : (100 : Int) < code.length := by omega
    clear hbig
    go_enter Tryd.func10, Tryd.ntmps10
    go_wp2_with fail
    refine (KA.out _ hp0).mono ?_
    rintro e w1 ⟨rfl, b1⟩
    have T1 := T0.below b1
    have t0 := T1.cells.1
    have t1 := T1.cells.2
    go_wp2_with fail
    go_returns
    exact ⟨rfl, T1.bel⟩
  have hI : ¬ (100 : Int) < code.length := by omega
  cases hr : rightB code.length d with
  | false =>
    rw [hr] at KX
    go_enter Tryd.func10, Tryd.ntmps10
    go_wp2_with fail
    refine (KA.out _ hp0).mono ?_
    rintro e w1 ⟨rfl, b1⟩
    have T1 := T0.below b1
    have t0 := T1.cells.1
    have t1 := T1.cells.2
    go_wp2_with fail
    refine (KX.out _).mono ?_
    rintro e w2 ⟨rfl, b2⟩
    have T2 := T1.below b2
    go_wp2_with fail
    go_returns
    exact ⟨rfl, T2.bel⟩
  | true =>
    rw [hr] at KX
    by_cases hg : 32768 < f
    · have hgI : (32768 : Int) < f := by omega
      go_enter Tryd.func10, Tryd.ntmps10
      go_wp2_with fail
      refine (KA.out _ hp0).mono ?_
      rintro e w1 ⟨rfl, b1⟩
      have T1 := T0.below b1
      have t0 := T1.cells.1
      have t1 := T1.cells.2
      go_wp2_with fail
      refine (KX.out _).mono ?_
      rintro e w2 ⟨rfl, b2⟩
      have T2 := T1.below b2
      go_wp2_with fail
      go_returns
      exact ⟨rfl, T2.bel⟩
    · have hgI : ¬ (32768 : Int) < f := by omega
      have hr2 := of_decide_eq_true hr
      obtain ⟨dn, rfl⟩ : ∃ dn : Nat, d = (dn : Int) := ⟨d.toNat, by omega⟩
      have hdn : dn ≤ 32768 := by omega
      have hq : rightB code.length (f : Int) = true := decide_eq_true ⟨by omega, by omega, by omega⟩
      have K1 := Lib.hid (fun (W : World) (h : Below w.heap.size w W) => listing_Text A code c dn W ((hA.below h).more h.size) hr (hp.below h))
      have K2 := Lib.hid (fun (W : World) (h : Below w.heap.size w W) => listing_Text A code c f W ((hA.below h).more h.size) hq (hp.below h))
      have e1 : (UInt32.ofNat dn).toNat = dn := by rw [UInt32.toNat_ofNat']; omega
      have e2 : (UInt32.ofNat f).toNat = f := by rw [UInt32.toNat_ofNat']; omega
      have k3 := fun W h => word_Text (UInt32.ofNat dn) W h
      have k4 := fun W h => word_Text (UInt32.ofNat f) W h
      rw [e1] at k3
      rw [e2] at k4
      have hw1 : IntKind.u32.wrap (dn : Int) = dn := by rw [IntKind.wrap_u32']; omega
      have hw2 : IntKind.u32.wrap (f : Int) = f := by rw [IntKind.wrap_u32']; omega
      have hl1 := dec_length32 dn (by omega)
      have hl2 := dec_length32 f (by omega)
      have hR1 := Lib.hid (fun (s : ByteArray) (hs : s.data.toList = textT code dn) => data_rest hs)
      have hR2 := Lib.hid (fun (s : ByteArray) (hs : s.data.toList = textT code f) => data_rest hs)
      obtain ⟨D, hD⟩ : ∃ D : ByteArray, (⟨(Lib.decDigits dn).toArray⟩ : ByteArray) = D := ⟨_, rfl⟩
      obtain ⟨E, hE⟩ : ∃ E : ByteArray, (⟨(Lib.decDigits f).toArray⟩ : ByteArray) = E := ⟨_, rfl⟩
      rw [hD] at k3
      rw [hE] at k4
      have hDz : (Lib.decDigits dn).length = D.size := by rw [← hD]; rfl
      have hEz : (Lib.decDigits f).length = E.size := by rw [← hE]; rfl
      rw [hDz] at hR1 hl1
      rw [hEz] at hR2 hl2
      have K3 := Lib.hid k3
      have K4 := Lib.hid k4
      clear hr hr2 hq e1 e2 k3 k4 hD hE hDz hEz
      go_enter Tryd.func10, Tryd.ntmps10
      go_wp2_with fail
      refine (KA.out _ hp0).mono ?_
      rintro e w1 ⟨rfl, b1⟩
      have T1 := T0.below b1
      have t0 := T1.cells.1
      have t1 := T1.cells.2
      go_wp2_with fail
      refine (KX.out _).mono ?_
      rintro e w2 ⟨rfl, b2⟩
      have T2 := T1.below b2
      have t0 := T2.cells.1
      have t1 := T2.cells.2
      clear b1 b2 T0 T1 hp0
      go_wp2_with fail
      refine (K1.out _ T2.bel).mono ?_
      rintro e w3 ⟨⟨s, rfl, hs⟩, b3⟩
      have T3 := T2.below b3
      have t0 := T3.cells.1
      have t1 := T3.cells.2
      clear b3 T2
      go_wp2_with fail
      refine (K2.out _ T3.bel).mono ?_
      rintro e w4 ⟨⟨t, rfl, ht⟩, b4⟩
      have T4 := T3.below b4
      have t0 := T4.cells.1
      have t1 := T4.cells.2
      clear b4 T3
      go_wp2_with fail
      refine (K3.out _ (hp.below T4.bel)).mono ?_
      rintro e w5 ⟨rfl, b5⟩
      have T5 := T4.below b5
      clear t0 t1
      go_wp2_with fail
      refine (K4.out _ (hp.below T5.bel)).mono ?_
      rintro e w6 ⟨rfl, b6⟩
      have T6 := T5.below b6
      obtain ⟨z1, r1⟩ := hR1.out s hs.out
      obtain ⟨z2, r2⟩ := hR2.out t ht.out
      have f1 : (7 : Int) + D.size ≤ s.size := by omega
      have f2 : (7 : Int) + E.size ≤ t.size := by omega
      have hst : ((s.extract (7 + D.size) s.size).toList == (t.extract (7 + E.size) t.size).toList) = true := by rw [r1, r2]; exact beq_self_eq_true _
      clear b5 b6 T5 T4 z1 z2 r1 r2 K1 K2
      go_wp2_with fail
      go_quiet (fail)
      go_wp2_with fail
      go_returns
      first | exact ⟨ret_bool (by simp), T6.bel⟩ | exact ⟨ret_bool (by simp), below_drewN T6.bel _⟩
end Go.Proofs.YtneebohaanjejaaDoor
