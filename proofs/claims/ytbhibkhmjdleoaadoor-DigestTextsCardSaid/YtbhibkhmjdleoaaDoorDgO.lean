/- Layer 3, plain: digests and their texts, there and back. -/
import Derived.Test.YtbhibkhmjdleoaaDoorDgQ
import Derived.Test.YtbhibkhmjdleoaaDoorDgY
namespace Go.Proofs.YtbhibkhmjdleoaaDoor
open Go.RowKit

theorem word4_self (x : UInt32) : word4 x.toUInt8 (x >>> 8).toUInt8 (x >>> 16).toUInt8 (x >>> 24).toUInt8 = x := by
  have h := word4_le4 x
  unfold le4 at h
  simp only [wordsL] at h
  exact (List.cons.inj h).1
theorem be4_rev (x : UInt32) : be4 x = (le4 x).reverse := rfl
theorem be4_word4 (a b c d : UInt8) : be4 (word4 d c b a) = [a, b, c, d] := by rw [be4_rev, le4_word4]; rfl
theorem deB_beB (f : Nat → UInt32) : dgv (deB (beB f)) = dgv f := dgv_ext fun k hk => by
  match k, hk with
  | 0, _ => exact word4_self (f 0)
  | 1, _ => exact word4_self (f 1)
  | 2, _ => exact word4_self (f 2)
  | 3, _ => exact word4_self (f 3)
theorem beB_deB (l : List UInt8) (h : l.length = 16) : beB (deB l) = l := by
  match l, h with
  | [a0, a1, a2, a3, a4, a5, a6, a7, a8, a9, a10, a11, a12, a13, a14, a15], _ =>
    unfold beB
    have e0 : deB [a0, a1, a2, a3, a4, a5, a6, a7, a8, a9, a10, a11, a12, a13, a14, a15] 0 = word4 a3 a2 a1 a0 := rfl
    have e1 : deB [a0, a1, a2, a3, a4, a5, a6, a7, a8, a9, a10, a11, a12, a13, a14, a15] 1 = word4 a7 a6 a5 a4 := rfl
    have e2 : deB [a0, a1, a2, a3, a4, a5, a6, a7, a8, a9, a10, a11, a12, a13, a14, a15] 2 = word4 a11 a10 a9 a8 := rfl
    have e3 : deB [a0, a1, a2, a3, a4, a5, a6, a7, a8, a9, a10, a11, a12, a13, a14, a15] 3 = word4 a15 a14 a13 a12 := rfl
    rw [e0, e1, e2, e3, be4_word4, be4_word4, be4_word4, be4_word4]
    rfl
theorem beB_length (f : Nat → UInt32) : (beB f).length = 16 := rfl
/-- A great letter as a small one. -/
def lowB (c : UInt8) : UInt8 := if 65 ≤ c.toNat ∧ c.toNat ≤ 70 then c + 32 else c
theorem lowB_toNat (c : UInt8) : (lowB c).toNat = lowN c := by
  unfold lowB lowN
  split
  · rw [UInt8.toNat_add]
    have : (32 : UInt8).toNat = 32 := rfl
    omega
  · rfl
theorem small_digV (c : UInt8) (h : 0 ≤ digV c) : smallD (digV c).toNat = lowB c := by
  apply UInt8.toNat_inj.1
  have h16 := digV_lt c
  rw [smallD_toNat _ (by omega), lowB_toNat]
  unfold digV at h ⊢
  unfold smallN lowN
  repeat' split at h
  all_goals (repeat' split)
  all_goals omega
theorem hexT_pairs (l : List UInt8) (h : ∀ c ∈ l, 0 ≤ digV c) (h2 : l.length % 2 = 0) : hexT (pairs l) = l.map lowB := by
  match l, h, h2 with
  | [], _, _ => rfl
  | [_], _, h2 => simp at h2
  | a :: b :: r, h, h2 =>
    have ha := h a (by simp)
    have hb := h b (by simp)
    have ha16 := digV_lt a
    have hb16 := digV_lt b
    have ih := hexT_pairs r (fun c hc => h c (by simp [hc])) (by simp at h2; omega)
    unfold pairs
    have e : (UInt8.ofNat ((digV a).toNat * 16 + (digV b).toNat)).toNat = (digV a).toNat * 16 + (digV b).toNat := by rw [UInt8.toNat_ofNat']; omega
    show [smallD ((UInt8.ofNat ((digV a).toNat * 16 + (digV b).toNat)).toNat / 16), smallD ((UInt8.ofNat ((digV a).toNat * 16 + (digV b).toNat)).toNat % 16)] ++ hexT (pairs r) = _
    rw [e, show ((digV a).toNat * 16 + (digV b).toNat) / 16 = (digV a).toNat by omega, show ((digV a).toNat * 16 + (digV b).toNat) % 16 = (digV b).toNat by omega, small_digV a ha, small_digV b hb, ih]
    rfl
theorem hexT_small (l : List UInt8) : ∀ c ∈ hexT l, (48 ≤ c.toNat ∧ c.toNat ≤ 57) ∨ (97 ≤ c.toNat ∧ c.toNat ≤ 102) := by
  intro c hc
  unfold hexT at hc
  obtain ⟨b, _, hb⟩ := List.mem_flatMap.1 hc
  have hb8 := b.toNat_lt
  simp only [List.mem_cons, List.not_mem_nil, or_false] at hb
  rcases hb with rfl | rfl
  all_goals
    rw [smallD_toNat _ (by omega)]
    unfold smallN
    split <;> omega
/-- A text of a digest is read: all of it is digits. -/
theorem parse_ok_all {l : List UInt8} (h : (parseI l).2.2 = true) : (∀ c ∈ l, 0 ≤ digV c) ∧ l.length % 2 = 0 ∧ (parseI l).1 = pairs l := by
  unfold parseI at h ⊢
  split at h
  · cases h
  · rename_i hn
    split at h
    · cases h
    · rename_i h2
      rw [if_neg h2]
      exact ⟨fun c hc => by have := List.findIdx?_eq_none_iff.1 hn c hc; simpa using this, by omega, rfl⟩
end Go.Proofs.YtbhibkhmjdleoaaDoor
