/- WordRest, WordOrder, WordTurns, WordApplies: the laws' own texts, walked. -/
import Derived.Test.YtflcaokjcgadgaaInfo
import Derived.Test.YtflcaokjcgadgaaPw
import Derived.Test.YtflcaokjcgadgaaAlive
import Derived.Test.YtflcaokjcgadgaaRefC
import Derived.Test.YtflcaokjcgadgaaLawRing
namespace Go.Proofs.Ytflcaokjcgadgaa
open Go.RowKit

theorem rest_facts (a b : UInt32) (h : b.toNat ≠ 0) : ∃ Q R : UInt32, applyW 7 a b = (Q, 0) ∧ applyW 8 a b = (R, 0) ∧ R.toNat < b.toNat ∧ Q.toNat * b.toNat + R.toNat = a.toNat := by
  refine ⟨a / b, a % b, ?_, ?_, ?_, ?_⟩
  · show divideW 7 a b = _
    unfold divideW; rw [if_neg h, if_pos rfl]
  · show divideW 8 a b = _
    unfold divideW; rw [if_neg h, if_neg (by decide)]
  · rw [UInt32.toNat_mod]; exact Nat.mod_lt _ (by omega)
  · rw [UInt32.toNat_mod, UInt32.toNat_div]; exact Nat.div_add_mod' _ _

theorem rest_walk (a b : UInt32) (w : World) :
    Calls Try.prog 6 #[.int .u32 a.toNat, .int .u32 b.toNat] w fun e w' => e = .returned (.bool true) ∧ Below w.heap.size w w' := by
  by_cases h0 : b.toNat = 0
  · have hz : ((b.toNat : Int) == 0) = true := by simp [h0]
    have e7 : applyW 7 a b = (0, 14) := by show divideW 7 a b = _; unfold divideW; rw [if_pos h0]
    have e8 : applyW 8 a b = (0, 14) := by show divideW 8 a b = _; unfold divideW; rw [if_pos h0]
    clear h0
    go_enter Try.func6, Try.ntmps6
    go_wp2_with fail
    refine (alive_any _).mono ?_
    rintro e w1 ⟨rfl, hb⟩
    go_wp2_with (go_at_call 11; refine (word_Apply _ _ _ _).mono ?_; rintro e w' ⟨rfl, rfl⟩)
    go_returns
    exact ⟨rfl, hb⟩
  · have hz : ((b.toNat : Int) == 0) = false := by simp; omega
    obtain ⟨Q, R, e7, e8, hR, hQ⟩ := rest_facts a b h0
    have hR' : (R.toNat : Int) < b.toNat := by omega
    have hm : (Q.toNat : Int) * b.toNat ≤ 4294967295 := by
      have := a.toNat_lt
      rw [← Int.natCast_mul]; omega
    have hm0 : 0 ≤ (Q.toNat : Int) * b.toNat := by rw [← Int.natCast_mul]; omega
    have hr0 := R.toNat_lt
    have hq0 := Q.toNat_lt
    have ha0 := a.toNat_lt
    have hb0 := b.toNat_lt
    have hEq : ((Q.toNat : Int) * b.toNat + R.toNat == a.toNat) = true := by
      rw [← hQ, Int.natCast_add, Int.natCast_mul]; simp
    clear hR hQ h0
    go_enter Try.func6, Try.ntmps6
    go_wp2_with fail
    refine (alive_any _).mono ?_
    rintro e w1 ⟨rfl, hb⟩
    go_wp2_with (go_at_call 11; refine (word_Apply _ _ _ _).mono ?_; rintro e w' ⟨rfl, rfl⟩)
    go_returns
    exact ⟨rfl, hb⟩

theorem order_walk (a b c : UInt32) (w : World) :
    Calls Try.prog 8 #[.int .u32 a.toNat, .int .u32 b.toNat, .int .u32 c.toNat] w fun e w' => e = .returned (.bool true) ∧ Below w.heap.size w w' := by
  have f : ∀ x y : UInt32, ofW 14 x y = if x.toNat < y.toNat then 1 else 0 := fun _ _ => rfl
  have g : ofW 15 a b = if a.toNat = b.toNat then 1 else 0 := rfl
  have f1 := f a b
  have f2 := f b a
  have f3 := f b c
  have f4 := f a c
  have hcase : (a.toNat < b.toNat ∧ b.toNat < c.toNat) ∨ (a.toNat < b.toNat ∧ ¬ b.toNat < c.toNat) ∨ b.toNat < a.toNat ∨ a.toNat = b.toNat := by omega
  have e10 : (1 : UInt32).toNat = 1 := rfl
  have e00 : (0 : UInt32).toNat = 0 := rfl
  rcases hcase with ⟨h1, h2⟩ | ⟨h1, h2⟩ | h1 | h1
  · rw [if_pos h1] at f1
    rw [if_neg (by omega)] at f2 g
    rw [if_pos h2] at f3
    rw [if_pos (by omega)] at f4
    have hab : ((a.toNat : Int) == b.toNat) = false := by simp; omega
    clear f h1 h2
    go_enter Try.func8, Try.ntmps8
    go_wp2_with fail
    refine (alive_any _).mono ?_
    rintro e w1 ⟨rfl, hb⟩
    go_wp2_with (go_at_call 15; refine (of_any _ _ _ _).mono ?_; rintro e w' ⟨rfl, rfl⟩)
    go_returns
    exact ⟨rfl, hb⟩
  · rw [if_pos h1] at f1
    rw [if_neg (by omega)] at f2 g
    rw [if_neg h2] at f3
    have hab : ((a.toNat : Int) == b.toNat) = false := by simp; omega
    clear f4
    clear f h1 h2
    go_enter Try.func8, Try.ntmps8
    go_wp2_with fail
    refine (alive_any _).mono ?_
    rintro e w1 ⟨rfl, hb⟩
    go_wp2_with (go_at_call 15; refine (of_any _ _ _ _).mono ?_; rintro e w' ⟨rfl, rfl⟩)
    go_returns
    exact ⟨rfl, hb⟩
  · rw [if_neg (by omega)] at f1 g
    rw [if_pos h1] at f2
    have hab : ((a.toNat : Int) == b.toNat) = false := by simp; omega
    have h2 := h1
    clear f3 f4
    clear f h1 h2
    go_enter Try.func8, Try.ntmps8
    go_wp2_with fail
    refine (alive_any _).mono ?_
    rintro e w1 ⟨rfl, hb⟩
    go_wp2_with (go_at_call 15; refine (of_any _ _ _ _).mono ?_; rintro e w' ⟨rfl, rfl⟩)
    go_returns
    exact ⟨rfl, hb⟩
  · rw [if_neg (by omega)] at f1 f2
    rw [if_pos h1] at g
    have hab : ((a.toNat : Int) == b.toNat) = true := by simp; omega
    have h2 := h1
    clear f3 f4
    clear f h1 h2
    go_enter Try.func8, Try.ntmps8
    go_wp2_with fail
    refine (alive_any _).mono ?_
    rintro e w1 ⟨rfl, hb⟩
    go_wp2_with (go_at_call 15; refine (of_any _ _ _ _).mono ?_; rintro e w' ⟨rfl, rfl⟩)
    go_returns
    exact ⟨rfl, hb⟩
end Go.Proofs.Ytflcaokjcgadgaa
