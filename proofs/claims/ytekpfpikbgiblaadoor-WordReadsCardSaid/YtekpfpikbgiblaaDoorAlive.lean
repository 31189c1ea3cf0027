/- Layer 1's examples, walked. -/
import Derived.Test.YtekpfpikbgiblaaDoorInfo
import Derived.Test.YtekpfpikbgiblaaDoorPw
import Derived.Test.YtekpfpikbgiblaaDoorWordA
import Derived.Test.YtekpfpikbgiblaaDoorWordB
import Derived.Test.YtekpfpikbgiblaaDoorWord
namespace Go.Proofs.YtekpfpikbgiblaaDoor
open Go.RowKit

theorem apply_ex1 (w : World) : Calls Tryd.prog 25 #[.int .i64 5, .int .u32 0, .int .u32 1] w fun e w' => e = .returned (.tuple #[.int .u32 4294967295, .int .i64 0]) ∧ w = w' := word_Apply 5 0 1 w
theorem apply_ex2 (w : World) : Calls Tryd.prog 25 #[.int .i64 12, .int .u32 1, .int .u32 32] w fun e w' => e = .returned (.tuple #[.int .u32 0, .int .i64 0]) ∧ w = w' := word_Apply 12 1 32 w
theorem turn_ex (w : World) : Calls Tryd.prog 26 #[.int .u32 2147483649, .int .i64 1] w fun e w' => e = .returned (.int .u32 3) ∧ w = w' := word_Turn 2147483649 1 w
theorem bytes_ex (g : Nat) (w : World) (hg : g < w.heap.size) (hc : w.cell? ⟨g, 0, none⟩ = some (.int .u32 258)) :
    Calls Tryd.prog 21 #[.slice (some ⟨g, 0, none⟩) 1 1] w fun e w' => (∃ s, e = .returned (.string s) ∧ Hid (s.data.toList = [2, 1, 0, 0])) ∧ Below w.heap.size w w' :=
  word_Bytes [258] _ 1 1 w ⟨rfl, fun _ => ⟨g, 0, rfl, hg, fun i u hu => by
    match i, hu with
    | 0, hu => rw [← Option.some.inj hu]; exact hc⟩⟩ (by decide)
theorem parse_ex (w : World) : Calls Tryd.prog 11 #[.string ⟨#[48, 48, 55]⟩] w fun e w' => e = .returned (.tuple #[.int .u32 0, .int .i64 3]) ∧ w = w' := by
  go_enter Tryd.func11, Tryd.ntmps11
  go_wp2
  go_returns
  exact ⟨rfl, rfl⟩

theorem alive_any (w : World) : Calls Tryd.prog 10 #[] w fun e w' => e = .returned (.bool true) ∧ Below w.heap.size w w' := by
  go_enter Tryd.func10, Tryd.ntmps10
  go_wp2_with fail
  refine (apply_ex1 _).mono ?_
  rintro e w' ⟨rfl, rfl⟩
  go_wp2_with fail
  refine (apply_ex2 _).mono ?_
  rintro e w' ⟨rfl, rfl⟩
  go_wp2_with fail
  refine (parse_ex _).mono ?_
  rintro e w' ⟨rfl, rfl⟩
  go_wp2_with fail
  refine (turn_ex _).mono ?_
  rintro e w' ⟨rfl, rfl⟩
  go_wp2_with fail
  refine (bytes_ex w.heap.size _ (by simp) (World.cell?_alloc_mark _ _ _ _ _)).mono ?_
  rintro e w' ⟨⟨s, rfl, hs⟩, hb⟩
  obtain rfl := ba_eq hs.out
  clear hs
  go_wp2_with fail
  go_returns
  exact ⟨rfl, below_new hb⟩
end Go.Proofs.YtekpfpikbgiblaaDoor
