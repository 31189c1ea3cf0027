/- Layer 11: where a word leads, walked: the program's and the document's. -/
import Derived.Test.YtknonabeagbjeaaGreatDoorLs
import Derived.Test.YtknonabeagbjeaaGreatDoorInH
namespace Go.Proofs.YtknonabeagbjeaaGreatDoor
open Go.RowKit

def leadV (x : UInt32) : Int := if jmpB x then cD x else 0
theorem lead_true {x : UInt32} (h : jmpB x = true) : leadV x = cD x := by unfold leadV; rw [if_pos h]
theorem lead_false {x : UInt32} (h : jmpB x = false) : leadV x = 0 := by unfold leadV; rw [if_neg (by rw [h]; decide)]
theorem jmp_cases (x : UInt32) : (decB x = false ∧ jmpB x = false) ∨ (decB x = true ∧ jmpB x = false ∧ (opD x < 18 ∨ 21 < opD x)) ∨ (decB x = true ∧ jmpB x = true ∧ (opD x = 18 ∨ opD x = 19 ∨ opD x = 20 ∨ opD x = 21)) := by
  unfold jmpB
  cases hd : decB x with
  | false => exact .inl ⟨rfl, rfl⟩
  | true =>
    refine .inr ?_
    by_cases h : 18 ≤ opD x ∧ opD x ≤ 21
    · exact .inr ⟨rfl, by rw [decide_eq_true h]; rfl, by omega⟩
    · exact .inl ⟨rfl, by rw [decide_eq_false h]; rfl, by omega⟩

set_option maxHeartbeats 1000000 in
theorem listing_leads (x : UInt32) (w : World) :
    Calls Tryz.prog 24 #[.int .u32 x.toNat] w fun e w' => e = .returned (.tuple #[.int .i64 (leadV x), .bool (jmpB x)]) ∧ Below w.heap.size w w' := by
  rcases jmp_cases x with ⟨hd, hj⟩ | ⟨hd, hj, ho⟩ | ⟨hd, hj, ho⟩
  · rw [lead_false hj, hj]
    have KD := Lib.hid (fun W => inst_Decode_bad x W hd)
    clear hj hd
    go_enter Tryz.func24, Tryz.ntmps24
    go_wp2_with fail
    refine (KD.out _).mono ?_
    rintro e w1 ⟨rfl, hb1⟩
    have b1 := hb1.alloc hb1.size (.cells #[.int .i64 0, .int .i64 0, .int .i64 0, .int .i64 0] 70)
    go_wp2_with fail
    go_returns
    exact ⟨rfl, b1⟩
  · rw [lead_false hj, hj]
    have KD := Lib.hid (fun W => inst_Decode_ok x W hd)
    have q1 : (opD x == 18) = false := by rw [beq_eq_false_iff_ne]; omega
    have q2 : (opD x == 19) = false := by rw [beq_eq_false_iff_ne]; omega
    have q3 : (opD x == 20) = false := by rw [beq_eq_false_iff_ne]; omega
    have q4 : (opD x == 21) = false := by rw [beq_eq_false_iff_ne]; omega
    clear hj hd ho
    generalize opD x = o at *
    generalize aD x = a at *
    generalize bD x = b at *
    generalize cD x = c at *
    go_enter Tryz.func24, Tryz.ntmps24
    go_wp2_with fail
    refine (KD.out _).mono ?_
    rintro e w1 ⟨rfl, hb1⟩
    have b1 := hb1.alloc hb1.size (.cells #[.int .i64 o, .int .i64 a, .int .i64 b, .int .i64 c] 70)
    go_wp2_with fail
    go_returns
    exact ⟨rfl, b1⟩
  · rw [lead_true hj, hj]
    have KD := Lib.hid (fun W => inst_Decode_ok x W hd)
    clear hj hd
    generalize aD x = a at *
    generalize bD x = b at *
    generalize cD x = c at *
    rcases ho with ho | ho | ho | ho
    all_goals
      rw [ho] at KD
      clear ho
      go_enter Tryz.func24, Tryz.ntmps24
      go_wp2_with fail
      refine (KD.out _).mono ?_
      rintro e w1 ⟨rfl, hb1⟩
      have b1 := fun o : Int => hb1.alloc hb1.size (.cells #[.int .i64 o, .int .i64 a, .int .i64 b, .int .i64 c] 70)
      go_wp2_with fail
      go_returns
      exact ⟨rfl, b1 _⟩

end Go.Proofs.YtknonabeagbjeaaGreatDoor
