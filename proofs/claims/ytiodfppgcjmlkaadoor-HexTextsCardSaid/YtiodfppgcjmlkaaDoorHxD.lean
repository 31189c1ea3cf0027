/- Layer 2: dumps, walked. -/
import Derived.Test.YtiodfppgcjmlkaaDoorHxA
import Derived.Test.YtiodfppgcjmlkaaDoorHxP
import Derived.Test.YtiodfppgcjmlkaaDoorSh02
import Derived.Lib.AppendStr
import Derived.Deep.DrawnRows
namespace Go.Proofs.YtiodfppgcjmlkaaDoor
open Go.RowKit
attribute [local go_sem ↓] Go.wp_at_zero Go.wp_at_succ

theorem tail_bytes (o : List UInt8) (n : Nat) : ((o.map bv ++ Lib.strCells ⟨#[32, 32, 35, 32]⟩) ++ Lib.byteCells (Lib.itoa (n : Int))) ++ [.int .u8 10] = (o ++ dTail n).map bv := by
  rw [Lib.itoa_nonneg]
  unfold dTail
  simp only [List.map_append, List.append_assoc]
  rfl
theorem ownAt {w : World} {B E : Nat} {v : Value} {n n' : Nat} {xs xs' : List Value} (h : w.ownsRow B E 1 v n xs) (hn : n = n') (hx : xs = xs') : w.ownsRow B E 1 v n' xs' := by subst hn hx; exact h

set_option maxHeartbeats 4000000 in
theorem hex_Dump (s : ByteArray) (w : World) (hs : s.size ≤ 1000000) (hT : Tabs w) :
    Calls Tryd.prog 18 #[.string s] w fun e w' => (∃ t, e = .returned (.string t) ∧ Hid (t.data.toList = dumpL s.data.toList)) ∧ Below w.heap.size w w' := by
  have hlen : s.data.toList.length = s.size := rfl
  have HLEN := Lib.hid hlen
  clear hlen
  go_enter Tryd.func18, Tryd.ntmps18
  go_wp2_with fail
  go_loopw [3, 4] (fun v i wr => ∃ (m : Nat) (o : List UInt8), 16 * m < s.size + 16 ∧ i = .int .i64 ((16 * m : Nat) : Int) ∧ Hid (o = dumpTo s.data.toList (min (16 * m) s.size)) ∧ wr.ownsRow w.heap.size 5 1 v o.length (o.map bv) ∧ Below w.heap.size w wr) (fun _ i _ => s.size + 16 - (intOf i).toNat)
  case atStart => exact ⟨0, [], by omega, rfl, by unfold Hid; rw [show min (16 * 0) s.size = 0 by omega]; rfl, ⟨rfl, .inl ⟨rfl, rfl⟩⟩, Below.refl _ _⟩
  case round =>
    obtain ⟨m, o, hm, rfl, HO, hown, hbel⟩ := hrel
    obtain ⟨a, ha⟩ : ∃ a, 16 * m = a := ⟨_, rfl⟩
    have ha16 : a % 16 = 0 := by omega
    have HA := Lib.hid ha
    rw [ha] at HO hm
    simp only [ha]
    clear ha
    by_cases hlt : a < s.size
    · obtain ⟨b, hb⟩ : ∃ b, min (a + 16) s.size = b := ⟨_, rfl⟩
      have hb1 : b ≤ s.size := by omega
      have hb2 : b ≤ a + 16 := by omega
      have hb3 : a < b := by omega
      have hb4 : b = a + 16 ∨ b = s.size := by omega
      have hmin : min ((a : Int) + 16) (s.size : Int) = (b : Int) := by omega
      rw [show min a s.size = a by omega] at HO
      clear hb
      have hsz := hbel.size
      go_wp2_with fail
      obtain ⟨wo, rfl⟩ : ∃ wo : World, wo = wr := ⟨_, rfl⟩
      go_loopw [3, 6] (fun v i wr => ∃ (k : Nat) (o : List UInt8), a ≤ k ∧ k ≤ b ∧ i = .int .i64 k ∧ Hid (k < b → o = dumpTo s.data.toList k) ∧ Hid (k = b → o ++ dTail a = dumpTo s.data.toList b) ∧ wr.ownsRow w.heap.size 5 1 v o.length (o.map bv) ∧ Below w.heap.size w wr) (fun _ i _ => b - (intOf i).toNat)
      case atStart => exact ⟨a, o, Nat.le_refl _, by omega, rfl, fun _ => HO.out, fun h => absurd h (by omega), hown, hbel⟩
      case round =>
        clear hown hbel hsz HO
        obtain ⟨k, o2, hk1, hk2, rfl, HP, HQ, hown, hbel⟩ := hrel
        have hsz := hbel.size
        by_cases hkb : k < b
        · obtain ⟨x, hx⟩ : ∃ x, s[k]'(by omega) = x := ⟨_, rfl⟩
          have hx8 := x.toNat_lt
          have ho2 := HP.out hkb
          have hol : o2.length ≤ 29 * k := by rw [ho2]; exact dumpTo_length _ _ (by rw [HLEN.out]; omega) (by rw [HLEN.out]; omega)
          have HB : Hid (dBody s.data.toList k = (if k % 16 = 0 then [] else [32]) ++ [smallD (x.toNat / 16), smallD (x.toNat % 16)]) := by
            unfold Hid
            rw [dBody_eq _ _ (by rw [HLEN.out]; omega)]
            have e1 : s.data.toList[k]'(by rw [HLEN.out]; omega) = x := hx
            rw [e1]
          have HP2 : Hid (k + 1 < b → o2 ++ dBody s.data.toList k = dumpTo s.data.toList (k + 1)) := by
            intro h
            rw [dump_mid _ _ (by omega) (by rw [HLEN.out]; omega), ho2]
          have HQ2 : Hid (k + 1 = b → (o2 ++ dBody s.data.toList k) ++ dTail a = dumpTo s.data.toList b) := by
            intro h
            rw [← h, dump_last _ _ (by rw [HLEN.out]; omega), ho2, show k - k % 16 = a by omega]
          have HH := Lib.hid (hex2 x)
          have hltI : (k : Int) < s.size := by omega
          have hk0 : (0 : Int) ≤ k := by omega
          have f1 : (0 : Int) ≤ (x.toNat : Int) / 16 := by omega
          have f2 : (x.toNat : Int) / 16 < 16 := by omega
          have f3 : ((x.toNat : Int) / 16).toNat = x.toNat / 16 := by omega
          have h15 := and15 x
          have g1 : (0 : Int) ≤ (x.toNat : Int) % 16 := by omega
          have g2 : (x.toNat : Int) % 16 < 16 := by omega
          have g3 : ((x.toNat : Int) % 16).toNat = x.toNat % 16 := by omega
          clear ho2 HP HQ
          by_cases h0 : k % 16 = 0
          · have hka : ¬ a < k := by omega
            rw [if_pos h0, List.nil_append] at HB
            have c1 := (hT.1.below hbel hT.1.1).2 (x.toNat / 16) (by omega)
            have c2 := (hT.1.below hbel hT.1.1).2 (x.toNat % 16) (by omega)
            have hownD : wr.drew.ownsRow w.heap.size 5 1 u3 o2.length (o2.map bv) := hown
            clear h0
            go_wp2_with fail
            go_region_law ((first
              | (refine step_append_new rfl rfl _ _ 31 rfl w.heap.size (.int .u8 0) 1 1 Tryd.underlying31 info_u8 rfl (by decide) _ o2.length _ rfl hownD 2 rfl rfl (by simp [Value.oneCell']) (by omega) (by omega) (by exact hsz) (by decide) ?_; intro g1 c1 w3 hown1 hb1 hk1)))
            all_goals
              go_wp2_with fail
              go_roundw
              case rel =>
                refine ⟨k + 1, o2 ++ dBody s.data.toList k, by omega, by omega, rfl, HP2, HQ2, ownAt hown1 ?_ ?_, (hbel.drew).trans hb1⟩
                · rw [HB.out]; simp
                · (rw [HB.out, List.map_append, HH.out]) <;> rfl
              case measure => simp [intOf]; omega
          · have hka : a < k := by omega
            rw [if_neg h0] at HB
            clear h0
            go_wp2_with (at_builtin; refine wpList_append_new rfl _ _ 31 rfl w.heap.size (.int .u8 0) 1 1 Tryd.underlying31 info_u8 rfl (by decide) _ o2.length _ rfl hown 1 rfl rfl (by simp [Value.oneCell']) (by omega) (by omega) hsz ?_; intro v1 w2 hown1 hb1 _; have hbel2 := hbel.trans hb1; have hsz2 := hbel2.size; have c1 := (hT.1.below hbel2 hT.1.1).2 (x.toNat / 16) (by omega); have c2 := (hT.1.below hbel2 hT.1.1).2 (x.toNat % 16) (by omega); have hownD : w2.drew.ownsRow w.heap.size 5 1 v1 (o2.length + 1) _ := hown1)
            go_region_law ((first
              | (refine step_append_new rfl rfl _ _ 31 rfl w.heap.size (.int .u8 0) 1 1 Tryd.underlying31 info_u8 rfl (by decide) _ (o2.length + 1) _ rfl hownD 2 rfl rfl (by simp [Value.oneCell']) (by omega) (by omega) (by exact hsz2) (by decide) ?_; intro g1 c1 w3 hown3 hb3 hk3)))
            all_goals
              go_wp2_with fail
              go_roundw
              case rel =>
                refine ⟨k + 1, o2 ++ dBody s.data.toList k, by omega, by omega, rfl, HP2, HQ2, ownAt hown3 ?_ ?_, (hbel2.drew).trans hb3⟩
                · rw [HB.out]; simp
                · (rw [HB.out, List.map_append, List.map_append, HH.out, List.append_assoc]) <;> rfl
              case measure => simp [intOf]; omega
        · obtain rfl : k = b := by omega
          have hq := HQ.out rfl
          have hol : o2.length ≤ 29 * k := by
            have h1 := dumpTo_length s.data.toList k (by rw [HLEN.out]; omega) (by rw [HLEN.out]; omega)
            rw [← hq, List.length_append] at h1
            omega
          have HQ3 := Lib.hid hq
          obtain ⟨i0, hi, hz0, hz1, hz2⟩ := info_parts info_u8
          have HI := Lib.hid hi
          have HZ0 := Lib.hid hz0
          have HZ1 := Lib.hid hz1
          have HZ2 := Lib.hid hz2
          clear hq HP HQ hi hz0 hz1 hz2
          go_wp2_with (at_builtin; refine Lib.wpList_append_own_string _ rfl _ _ 31 9 rfl w.heap.size 5 i0 Tryd.underlying31 Tryd.underlying9 HI.out HZ0.out HZ1.out HZ2.out _ o2.length _ rfl hown ⟨#[32, 32, 35, 32]⟩ rfl ?c1 ?c2 hsz ?_)
          case c1 => unfold maxLen; show o2.length + 4 ≤ _; omega
          case c2 => show o2.length + 4 ≤ _; omega
          intro v3 w3 hown3 hg3 _
          have bel3 := hbel.trans ((Below.refl w.heap.size wr).grown hg3 hsz (fun k hk => (hown.lt k hk).1))
          go_wp2_with fail
          refine (Tryd.strconv_AppendInt_10 w.heap.size (o2.length + 4) (a : Int) (by omega) (by omega) v3 _ w3 hown3 bel3.size (by omega) ((hT.2.below bel3 hT.2.1).tab hT.2.1)).mono ?_
          rintro e w4 ⟨v4, rfl, hown4, hb4, _⟩
          have bel4 := bel3.trans hb4
          have sz4 := bel4.size
          have hla : (Lib.itoa (a : Int)).length ≤ 21 := by rw [Lib.itoa_nonneg]; exact dec_length a (by omega)
          go_wp2_with (at_builtin; refine wpList_append_new rfl _ _ 31 rfl w.heap.size (.int .u8 0) 1 1 Tryd.underlying31 info_u8 rfl (by decide) _ (o2.length + 4 + (Lib.itoa (a : Int)).length) _ rfl hown4 1 rfl rfl (by simp [Value.oneCell']) (by omega) (by omega) sz4 ?_; intro v5 w5 hown5 hb5 _)
          have hown6 := hown5
          rw [show (#[Value.int IntKind.u8 10] : Array Value).toList = [Value.int IntKind.u8 10] from rfl, tail_bytes] at hown6
          go_roundw
          case rel =>
            have hl := hown6.1
            refine ⟨m + 1, o2 ++ dTail a, by have := HA.out; omega, congrArg (Value.int .i64) (by have := HA.out; omega), ?_, ownAt hown6 (by simpa using hl.symm) rfl, bel4.trans hb5⟩
            unfold Hid
            rw [HQ3.out]
            congr 1
            have := HA.out
            omega
          case measure => simp [intOf]; omega
    · rw [show min a s.size = s.size by omega] at HO
      obtain ⟨t, hconv, hS⟩ := string_row _ 31 9 Tryd.underlying31 Tryd.underlying5 Tryd.underlying9 hown
      go_wp2_with fail
      go_returns
      exact ⟨⟨t, rfl, by unfold Hid dumpL; rw [hS.out, HO.out, HLEN.out]⟩, hbel⟩
end Go.Proofs.YtiodfppgcjmlkaaDoor
