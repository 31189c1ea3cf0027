/- Layer 2's examples, walked. -/
import Derived.Test.YtiodfppgcjmlkaaDoorHxB
import Derived.Test.YtiodfppgcjmlkaaDoorHxC
import Derived.Test.YtiodfppgcjmlkaaDoorHxD
namespace Go.Proofs.YtiodfppgcjmlkaaDoor
open Go.RowKit

theorem x_Parse1 (W : World) (hT : Tabs W) : Calls Tryd.prog 12 #[.string ⟨#[52, 49, 55, 65]⟩] W fun e W' => e = .returned (.tuple #[.string ⟨#[65, 122]⟩, .int .i64 0, .int .i64 0]) ∧ Below W.heap.size W W' := by
  have h1 : parseI [52, 49, 55, 65] = ([65, 122], 0, true) := by decide +kernel
  refine (hex_Parse ⟨#[52, 49, 55, 65]⟩ W (by decide) hT.1).mono ?_
  rintro e W' ⟨⟨t, rfl, ht⟩, hb⟩
  have h2 := ht.out
  rw [show (ByteArray.mk #[52, 49, 55, 65]).data.toList = [52, 49, 55, 65] from rfl] at h2 ⊢
  unfold parseE
  rw [h1] at h2 ⊢
  have h := ba_eq h2
  subst h
  exact ⟨rfl, hb⟩
theorem x_Parse2 (W : World) (hT : Tabs W) : Calls Tryd.prog 12 #[.string ⟨#[52, 49, 32, 55, 97]⟩] W fun e W' => e = .returned (.tuple #[.string ⟨#[]⟩, .int .i64 2, .int .i64 3]) ∧ Below W.heap.size W W' := by
  have h1 : parseI [52, 49, 32, 55, 97] = ([], 2, false) := by decide +kernel
  refine (hex_Parse ⟨#[52, 49, 32, 55, 97]⟩ W (by decide) hT.1).mono ?_
  rintro e W' ⟨⟨t, rfl, ht⟩, hb⟩
  have h2 := ht.out
  rw [show (ByteArray.mk #[52, 49, 32, 55, 97]).data.toList = [52, 49, 32, 55, 97] from rfl] at h2 ⊢
  unfold parseE
  rw [h1] at h2 ⊢
  have h := ba_eq h2
  subst h
  exact ⟨rfl, hb⟩
theorem x_Text (W : World) (hT : Tabs W) : Calls Tryd.prog 11 #[.string ⟨#[65, 122]⟩] W fun e W' => e = .returned (.string ⟨#[52, 49, 55, 97]⟩) ∧ Below W.heap.size W W' := by
  refine (hex_Text ⟨#[65, 122]⟩ W (by decide) hT.1).mono ?_
  rintro e W' ⟨⟨t, rfl, ht⟩, hb⟩
  have h := ba_eq (ht.out.trans (show hexT [65, 122] = [52, 49, 55, 97] by decide +kernel))
  subst h
  exact ⟨rfl, hb⟩
theorem x_Load (W : World) (hT : Tabs W) : Calls Tryd.prog 16 #[.string ⟨#[52, 32, 49, 32, 35, 32, 52, 50, 10, 55, 97, 70]⟩] W fun e W' => e = .returned (.string ⟨#[65, 122]⟩) ∧ Below W.heap.size W W' := by
  refine (hex_Load ⟨#[52, 32, 49, 32, 35, 32, 52, 50, 10, 55, 97, 70]⟩ W (by decide) hT.1).mono ?_
  rintro e W' ⟨⟨t, rfl, ht⟩, hb⟩
  have h := ba_eq (ht.out.trans (show loadL [52, 32, 49, 32, 35, 32, 52, 50, 10, 55, 97, 70] = [65, 122] by decide +kernel))
  subst h
  exact ⟨rfl, hb⟩
theorem ex_dump : dumpL [65, 122] = [52, 49, 32, 55, 97, 32, 32, 35, 32, 48, 10] := by
  have h0 : dBody [65, 122] 0 = [52, 49] := by decide +kernel
  have h1 : dBody [65, 122] 1 = [32, 55, 97] := by decide +kernel
  have h2 : dTail 0 = [32, 32, 35, 32, 48, 10] := by unfold dTail; rw [Lib.decDigits_one (by decide)]; rfl
  show dumpTo [65, 122] 2 = _
  rw [dumpTo, dumpTo, dumpTo, h0, h1, if_neg (by decide), if_pos (by decide), show 1 - 1 % 16 = 0 from rfl, h2]
  rfl
theorem x_Dump (W : World) (hT : Tabs W) : Calls Tryd.prog 18 #[.string ⟨#[65, 122]⟩] W fun e W' => e = .returned (.string ⟨#[52, 49, 32, 55, 97, 32, 32, 35, 32, 48, 10]⟩) ∧ Below W.heap.size W W' := by
  refine (hex_Dump ⟨#[65, 122]⟩ W (by decide) hT).mono ?_
  rintro e W' ⟨⟨t, rfl, ht⟩, hb⟩
  have h := ba_eq (ht.out.trans ex_dump)
  subst h
  exact ⟨rfl, hb⟩

set_option maxHeartbeats 2000000 in
theorem hx_awake (w : World) (hT : Tabs w) :
    Calls Tryd.prog 10 #[] w fun e w' => e = .returned (.bool true) ∧ Below w.heap.size w w' := by
  go_enter Tryd.func10, Tryd.ntmps10
  go_wp2_with fail
  refine (x_Parse1 _ hT).mono ?_
  rintro e w1 ⟨rfl, hb1⟩
  have T1 := hT.below hb1
  go_wp2_with fail
  refine (x_Parse2 _ T1).mono ?_
  rintro e w2 ⟨rfl, hb2⟩
  have T2 := T1.below hb2
  have bel2 := hb1.trans (hb2.mono hb1.size)
  clear hb1 hb2 T1
  go_wp2_with fail
  refine (x_Text _ T2).mono ?_
  rintro e w3 ⟨rfl, hb3⟩
  have T3 := T2.below hb3
  have bel3 := bel2.trans (hb3.mono bel2.size)
  clear hb3 T2 bel2
  go_wp2_with fail
  refine (x_Load _ T3).mono ?_
  rintro e w4 ⟨rfl, hb4⟩
  have T4 := T3.below hb4
  have bel4 := bel3.trans (hb4.mono bel3.size)
  clear hb4 T3 bel3
  go_wp2_with fail
  refine (x_Dump _ T4).mono ?_
  rintro e w5 ⟨rfl, hb5⟩
  have bel5 := bel4.trans (hb5.mono bel4.size)
  clear hb5 T4 bel4
  go_wp2_with fail
  go_returns
  exact ⟨rfl, bel5⟩
end Go.Proofs.YtiodfppgcjmlkaaDoor
