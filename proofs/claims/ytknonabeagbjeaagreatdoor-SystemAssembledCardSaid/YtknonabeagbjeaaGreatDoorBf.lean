/- Layer 12: a hexadecimal operand, walked. -/
import Derived.Test.YtknonabeagbjeaaGreatDoorBe
import Derived.Test.YtknonabeagbjeaaGreatDoorHxB
import Derived.Test.YtknonabeagbjeaaGreatDoorInC
namespace Go.Proofs.YtknonabeagbjeaaGreatDoor
open Go.RowKit

def opV (x : Int × Nat × Bool) : Value := .agg #[.int .i64 x.1, .int .u32 (x.2.1 : Nat), .bool x.2.2]
theorem parseI_len (l : List UInt8) : (parseI l).1.length ≤ l.length / 2 := by
  unfold parseI
  split
  · simp
  · split
    · simp
    · rw [pairs_length]
      exact Nat.le_refl _
def val256 (l : List UInt8) : Nat := l.foldl (fun n b => n * 256 + b.toNat) 0
theorem val256_snoc (l : List UInt8) (k : Nat) (h : k < l.length) : val256 (l.take (k + 1)) = val256 (l.take k) * 256 + l[k].toNat := by
  unfold val256
  rw [List.take_succ_eq_append_getElem h, List.foldl_append]
  rfl
theorem val256_lt (l : List UInt8) : ∀ k, k ≤ l.length → val256 (l.take k) < 256 ^ k
  | 0, _ => by simp [val256]
  | k + 1, h => by
    have ih := val256_lt l k (by omega)
    rw [val256_snoc l k (by omega), Nat.pow_succ]
    have := l[k].toNat_lt
    omega
theorem repeat_zero : ∀ n, Lib.repeatL [48] n = List.replicate n 48
  | 0 => rfl
  | n + 1 => by unfold Lib.repeatL; rw [repeat_zero n]; rfl

theorem three_set {w W : World} {t : TypeId} {cs : Array Value} (h : Blk W w.heap.size t cs) (hb : Below w.heap.size w W) (y0 y1 y2 : Value) (h3 : cs.size = 3 := by rfl) :
    (((W.setCell ⟨w.heap.size, 0, none⟩ y0).setCell ⟨w.heap.size, 1, none⟩ y1).setCell ⟨w.heap.size, 2, none⟩ y2).cell? ⟨w.heap.size, 0, none⟩ = some y0 ∧
    (((W.setCell ⟨w.heap.size, 0, none⟩ y0).setCell ⟨w.heap.size, 1, none⟩ y1).setCell ⟨w.heap.size, 2, none⟩ y2).cell? ⟨w.heap.size, 1, none⟩ = some y1 ∧
    (((W.setCell ⟨w.heap.size, 0, none⟩ y0).setCell ⟨w.heap.size, 1, none⟩ y1).setCell ⟨w.heap.size, 2, none⟩ y2).cell? ⟨w.heap.size, 2, none⟩ = some y2 ∧
    Below w.heap.size w (((W.setCell ⟨w.heap.size, 0, none⟩ y0).setCell ⟨w.heap.size, 1, none⟩ y1).setCell ⟨w.heap.size, 2, none⟩ y2) := by
  have B := ((h.set 0 y0).set 1 y1).set 2 y2
  refine ⟨(B.cell 0).trans ?_, (B.cell 1).trans ?_, (B.cell 2).trans ?_, ((hb.setCell (Nat.le_refl _) _).setCell (Nat.le_refl _) _).setCell (Nat.le_refl _) _⟩
  all_goals simp [h3]

set_option maxRecDepth 100000 in
set_option maxHeartbeats 4000000 in
theorem asm_hex (d : ByteArray) (w : World) (hd : d.size ≤ 1000000) (hT : Small w) :
    Calls Tryz.prog 69 #[.string d] w fun e w' => e = .returned (opV (hexX d.data.toList)) ∧ Below w.heap.size w w' := by
  have KR := Lib.hid strings_Repeat
  have KP := Lib.hid hex_Parse
  have hB0 := Blk.new w 81 #[.int .i64 0, .int .u32 0, .bool false]
  have hbel0 := (Below.refl _ w).alloc (Nat.le_refl _) (.cells #[.int .i64 0, .int .u32 0, .bool false] 81)
  have hT0 := hT.below hbel0 hT.1
  by_cases hlen : d.size < 1 ∨ 8 < d.size
  · have hX : hexX d.data.toList = (0, 0, false) := by unfold hexX; rw [if_pos (show d.data.toList.length < 1 ∨ 8 < d.data.toList.length from hlen)]
    rw [hX]
    rcases hlen with h | h
    · have hI : (d.size : Int) < 1 := by omega
      clear hX h hT0
      go_enter Tryz.func69, Tryz.ntmps69
      go_wp2_with fail
      refine bodyPost_ret (by simp [results, Tryz.results69, go_sem]; try rfl) rfl ?_
      exact ⟨rfl, hbel0⟩
    · have hI : (8 : Int) < d.size := by omega
      have hI2 : ¬ (d.size : Int) < 1 := by omega
      clear hX h hT0
      go_enter Tryz.func69, Tryz.ntmps69
      go_wp2_with fail
      refine bodyPost_ret (by simp [results, Tryz.results69, go_sem]; try rfl) rfl ?_
      exact ⟨rfl, hbel0⟩
  · have h1 : 1 ≤ d.size := by omega
    have h8 : d.size ≤ 8 := by omega
    have hI : ¬ (d.size : Int) < 1 := by omega
    have hI2 : ¬ (8 : Int) < d.size := by omega
    have hX : hexX d.data.toList = if parseE (List.replicate (8 - d.size) 48 ++ d.data.toList) = 0 then (2, val256 (parseI (List.replicate (8 - d.size) 48 ++ d.data.toList)).1, false) else (0, 0, false) := by
      unfold hexX
      rw [if_neg (show ¬ (d.data.toList.length < 1 ∨ 8 < d.data.toList.length) from hlen)]
      rfl
    rw [hX]
    clear hX hlen
    obtain ⟨n8, hn8⟩ : ∃ n : Nat, 8 - d.size = n := ⟨_, rfl⟩
    rw [hn8]
    have hn8I : (8 : Int) - (d.size : Int) = (n8 : Int) := by omega
    obtain ⟨z, hz⟩ : ∃ z : ByteArray, (⟨(List.replicate n8 (48 : UInt8)).toArray⟩ : ByteArray) = z := ⟨_, rfl⟩
    have hzl : z.data.toList = List.replicate n8 48 := by rw [← hz]
    have hzz : z.size = n8 := by rw [← hz]; exact List.length_replicate
    have KR1 := fun W => KR.out ⟨#[48]⟩ n8 W (by omega) (by show 1 * n8 ≤ _; omega)
    rw [show (⟨#[48]⟩ : ByteArray).data.toList = [48] from rfl, repeat_zero, hz] at KR1
    have HKR := Lib.hid KR1
    have q1 : ¬ 9223372036854775807 < z.size + d.size := by omega
    obtain ⟨s, hs⟩ : ∃ s : ByteArray, z ++ d = s := ⟨_, rfl⟩
    have hsl : s.data.toList = List.replicate n8 48 ++ d.data.toList := by rw [← hs, ba_app, hzl]
    have hsz : s.size = 8 := by rw [← hs, ByteArray.size_append]; omega
    rw [← hsl]
    have KP1 := fun W (h : Small W) => KP.out s W (by omega) h
    have hpl := parseI_len s.data.toList
    rw [show s.data.toList.length = s.size from rfl, hsz] at hpl
    generalize parseI s.data.toList = pI at KP1 hpl ⊢
    generalize parseE s.data.toList = pE at KP1 ⊢
    have HKP := Lib.hid KP1
    have HS := Lib.hid hs
    clear KR1 hz hzl hsl hs hsz KP1 hn8
    by_cases hE : pE = 0
    · subst hE
      rw [if_pos rfl]
      go_enter Tryz.func69, Tryz.ntmps69
      go_wp2_with fail
      refine (HKR.out _).mono ?_
      rintro e w1 ⟨rfl, b1⟩
      have B1 := hB0.below b1 hB0.lt
      have c1 := hbel0.trans (b1.mono hbel0.size)
      have t1 := hT0.below b1 hT0.1
      clear b1
      go_wp2_with fail
      rw [HS.out]
      refine (HKP.out _ t1).mono ?_
      rintro e w2 ⟨⟨t, rfl, ht⟩, b2⟩
      have B2 := B1.below b2 B1.lt
      have c2 := c1.trans (b2.mono c1.size)
      have htz : t.size ≤ 4 := by rw [size_len, ht.out]; omega
      have r0 := B2.cell 0
      have r1 := B2.cell 1
      have r2 := B2.cell 2
      have f0 := B2.frozen 0
      have f1 := B2.frozen 1
      have f2 := B2.frozen 2
      have HB2 := Lib.hid B2
      clear b2 B1 t1 c1 B2 hpl
      go_wp2_with fail
      go_loop [6, 7] (fun nv iv => ∃ i : Nat, i ≤ t.size ∧ iv = .int .i64 i ∧ nv = .int .u32 (val256 (t.data.toList.take i) : Nat)) (fun _ iv => t.size - (intOf iv).toNat)
      case atStart => exact ⟨0, Nat.zero_le _, rfl, rfl⟩
      case round =>
        obtain ⟨i, hi, rfl, rfl⟩ := hrel
        by_cases hlt : i < t.size
        · have hiI : (i : Int) < t.size := by omega
          have hi0 : (0 : Int) ≤ i := by omega
          have htI : (t.size : Int) ≤ 4 := by omega
          obtain ⟨x, hx⟩ : ∃ x, t[i]'hlt = x := ⟨_, rfl⟩
          have hsn := val256_snoc t.data.toList i hlt
          rw [show t.data.toList[i]'hlt = x from hx] at hsn
          have hvl := val256_lt t.data.toList i (Nat.le_of_lt hlt)
          have hvb : val256 (t.data.toList.take i) < 16777216 := Nat.lt_of_lt_of_le hvl (by
            have : i ≤ 3 := by omega
            calc 256 ^ i ≤ 256 ^ 3 := Nat.pow_le_pow_right (by decide) this
              _ ≤ 16777216 := by decide)
          have hxb := x.toNat_lt
          obtain ⟨v, hv⟩ : ∃ v, val256 (t.data.toList.take i) = v := ⟨_, rfl⟩
          rw [hv] at hsn hvb ⊢
          have hor : bits .or .u32 ((v : Int) * 256) (x.toNat : Int) = (v : Int) * 256 + x.toNat := or_ints _ _ 8 (by omega) (by omega) (by omega) (by omega) (by omega) (by omega)
          have hw1 : IntKind.u32.wrap ((v : Int) * 256) = (v : Int) * 256 := by rw [IntKind.wrap_u32]; omega
          have HSN := Lib.hid hsn
          clear hsn hvl hv hxb
          go_wp2_with fail
          go_round
          case rel => exact ⟨i + 1, hlt, rfl, by rw [HSN.out]; simp⟩
          case measure => simp [intOf]; omega
        · obtain rfl : i = t.size := by omega
          rw [List.take_of_length_le (show t.data.toList.length ≤ t.size from Nat.le_refl _)]
          have HV : Hid (val256 pI.1 = val256 t.data.toList) := Lib.hid (by rw [ht.out])
          generalize val256 t.data.toList = v at HV ⊢
          go_wp2_with fail
          obtain ⟨k0, k1, k2, kb⟩ := three_set HB2.out c2 (.int .i64 2) (.int .u32 (v : Nat)) (.bool false)
          refine bodyPost_ret (by simp [results, Tryz.results69, go_sem, k0, k1, k2]; try rfl) rfl ?_
          exact ⟨by rw [HV.out]; rfl, kb⟩
    · rw [if_neg hE]
      have hE2 : (pE != 0) = true := by rw [bne_iff_ne]; exact hE
      clear hE
      go_enter Tryz.func69, Tryz.ntmps69
      go_wp2_with fail
      refine (HKR.out _).mono ?_
      rintro e w1 ⟨rfl, b1⟩
      have B1 := hB0.below b1 hB0.lt
      have c1 := hbel0.trans (b1.mono hbel0.size)
      have t1 := hT0.below b1 hT0.1
      clear b1
      go_wp2_with fail
      rw [HS.out]
      refine (HKP.out _ t1).mono ?_
      rintro e w2 ⟨⟨t, rfl, ht⟩, b2⟩
      have B2 := B1.below b2 B1.lt
      have c2 := c1.trans (b2.mono c1.size)
      have r0 := B2.cell 0
      have r1 := B2.cell 1
      have r2 := B2.cell 2
      have f0 := B2.frozen 0
      have f1 := B2.frozen 1
      have f2 := B2.frozen 2
      have HB2 := Lib.hid B2
      clear b2 B1 t1 c1 B2 hpl
      go_wp2_with fail
      obtain ⟨k0, k1, k2, kb⟩ := three_set HB2.out c2 (.int .i64 0) (.int .u32 0) (.bool false)
      refine bodyPost_ret (by simp [results, Tryz.results69, go_sem, k0, k1, k2]; try rfl) rfl ?_
      exact ⟨rfl, kb⟩
end Go.Proofs.YtknonabeagbjeaaGreatDoor
