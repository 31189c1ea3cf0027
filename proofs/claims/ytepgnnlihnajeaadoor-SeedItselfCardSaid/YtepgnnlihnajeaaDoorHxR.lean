/- Layer 2, the document's answer: digits, texts, their reading; walked. -/
import Derived.Test.YtepgnnlihnajeaaDoorHxB
import Derived.Test.YtepgnnlihnajeaaDoorHxL
import Derived.Deep.DrawnRows
namespace Go.Proofs.YtepgnnlihnajeaaDoor
open Go.RowKit
attribute [local go_sem ↓] Go.wp_at_zero Go.wp_at_succ

theorem ref_Digit (c : UInt8) (w : World) :
    Calls Tryd.prog 15 #[.int .u8 c.toNat] w fun e w' => e = .returned (.int .i64 (digV c)) ∧ w = w' := by
  have hc8 := c.toNat_lt
  have hcase : (48 ≤ c.toNat ∧ c.toNat ≤ 57) ∨ (97 ≤ c.toNat ∧ c.toNat ≤ 102) ∨ (65 ≤ c.toNat ∧ c.toNat ≤ 70) ∨ c.toNat < 48 ∨ (57 < c.toNat ∧ c.toNat < 65) ∨ (70 < c.toNat ∧ c.toNat < 97) ∨ 102 < c.toNat := by omega
  rcases hcase with ⟨ha, hb⟩ | ⟨ha, hb⟩ | ⟨ha, hb⟩ | ha | ⟨ha, hb⟩ | ⟨ha, hb⟩ | ha
  all_goals
    go_enter Tryd.func15, Tryd.ntmps15
    go_wp2_with fail
    go_returns
    refine ⟨ret_int ?_, rfl⟩
    unfold digV
    repeat' split
    all_goals omega

end Go.Proofs.YtepgnnlihnajeaaDoor
