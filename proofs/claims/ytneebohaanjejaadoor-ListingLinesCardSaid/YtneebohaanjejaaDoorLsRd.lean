/- Readers of chapter 11's inputs. -/
import Derived.Test.YtneebohaanjejaaDoorRdB
import Derived.Test.YtneebohaanjejaaDoorRdI
import Derived.WalkArith
namespace Go.Proofs.YtneebohaanjejaaDoor
open Go.RowKit Go.ChangeShapes

section
variable {H : Type} {enc : TypeId × Value → H} {P : Program} {w : World} {base : Nat} {spare : Nat → Bool} {held : Bool} {r : Reach} {b0 : Nat} {t : TypeId} {v : Value} {d : DataW H} {ps : List MemPlace}
theorem rd_u16 (ht : P.underlying t = some (.int .u16)) (hv : Value.okWide P w r b0 t v) (h : DataW.Trod enc P w base spare held t v d ps) : ∃ x : Nat, v = .int .u16 (x : Int) ∧ x ≤ 65535 := by
  obtain ⟨n, rfl, _, _, hw⟩ := open_int ht hv h
  simp [Lit.wf, IntKind.min, IntKind.max, IntKind.signed, IntKind.bits] at hw
  exact ⟨n.toNat, by rw [Int.toNat_of_nonneg (by omega)], by omega⟩
end
end Go.Proofs.YtneebohaanjejaaDoor
