/- Layer 11: the laws' fixed fact, walked. -/
import Derived.Test.YtneebohaanjejaaDoorLy
import Derived.Test.YtneebohaanjejaaDoorLo
namespace Go.Proofs.YtneebohaanjejaaDoor
open Go.RowKit

theorem sl_lit {W : World} {E : TypeId} {cs : Array Value} {n : Nat} {xs : List Value} (h1 : xs.length = n) (h2 : cs.toList = xs) : Sl (W.alloc (.cells cs E)) (W.alloc (.cells cs E)).heap.size (some ⟨W.heap.size, 0, none⟩) n xs :=
  ⟨h1, fun _ => ⟨W.heap.size, 0, rfl, by simp, fun i u hu => by
    rw [Nat.zero_add, World.cell?_alloc_mark, ← Array.getElem?_toList, h2]
    exact hu⟩⟩
theorem wake_text : textT [301989888, 0] 3 = [46, 100, 97, 116, 97, 32, 51, 10, 76, 48, 58, 10, 32, 32, 106, 109, 112, 32, 76, 48, 10, 32, 32, 46, 119, 111, 114, 100, 32, 48, 10] := by decide +kernel
theorem wake_targ : targL [301989888] = [0] := by decide +kernel
set_option maxHeartbeats 1000000 in
theorem ls_awake (w : World) (hp : Pow10 w) : Calls Tryd.prog 19 #[] w fun e w' => e = .returned (.bool true) ∧ Below w.heap.size w w' := by
  have KE : Hid (∀ W : World, Calls Tryd.prog 44 #[.agg #[.int .i64 18, .int .i64 0, .int .i64 0, .int .i64 0]] W fun e w' => e = .returned (.tuple #[.int .u32 301989888, .int .i64 0]) ∧ Below W.heap.size W w') := Lib.hid fun W => inst_Encode 18 0 0 0 W (by decide)
  have KT : Hid (∀ (A : Option Addr) (W : World), Sl W W.heap.size A 2 [.int .u32 301989888, .int .u32 0] → Pow10 W → Calls Tryd.prog 22 #[.agg #[.slice A 2 2, .int .i64 3]] W fun e w' => e = .returned (.tuple #[.string ⟨#[46, 100, 97, 116, 97, 32, 51, 10, 76, 48, 58, 10, 32, 32, 106, 109, 112, 32, 76, 48, 10, 32, 32, 46, 119, 111, 114, 100, 32, 48, 10]⟩, .int .i64 0]) ∧ Below W.heap.size W w') := Lib.hid fun A W hS h => by
    refine (listing_Text A [301989888, 0] 2 3 W hS (by decide) h).mono ?_
    rintro e w' ⟨⟨s, rfl, hs⟩, hb⟩
    have e := ba_eq (hs.out.trans wake_text)
    subst e
    exact ⟨rfl, hb⟩
  have KB : Hid (∀ W : World, Calls Tryd.prog 22 #[.agg #[.slice none 0 0, .int .i64 (-1)]] W fun e w' => e = .returned (.tuple #[.string ⟨#[]⟩, .int .i64 1]) ∧ Below W.heap.size W w') := Lib.hid fun W => listing_Text_bad none 0 0 (-1) W (by decide)
  have KG : Hid (∀ (A : Option Addr) (W : World), Sl W W.heap.size A 1 [.int .u32 301989888] → Calls Tryd.prog 20 #[.agg #[.slice A 1 1, .int .i64 0]] W fun e w' => (∃ B c', e = .returned (.slice B 1 c')) ∧ Below W.heap.size W w') := Lib.hid fun A W hS => by
    refine (listing_Targets A [301989888] 1 0 W hS (by decide)).mono ?_
    rintro e w' ⟨⟨B, c', rfl, _⟩, hb⟩
    rw [wake_targ]
    exact ⟨⟨B, c', rfl⟩, hb⟩
  go_enter Tryd.func19, Tryd.ntmps19
  go_wp2_with fail
  refine (KE.out _).mono ?_
  rintro e w1 ⟨rfl, b1⟩
  have c1 := b1.alloc b1.size (.cells #[.int .u32 301989888, .int .u32 0] 40)
  have s1 : Sl (w1.alloc (.cells #[.int .u32 301989888, .int .u32 0] 40)) (w1.alloc (.cells #[.int .u32 301989888, .int .u32 0] 40)).heap.size (some ⟨w1.heap.size, 0, none⟩) 2 [.int .u32 301989888, .int .u32 0] := sl_lit rfl rfl
  go_wp2_with fail
  refine (KT.out _ _ s1 (hp.below c1)).mono ?_
  rintro e w2 ⟨rfl, b2⟩
  have c2 := c1.trans (b2.mono c1.size)
  clear b1 s1
  go_wp2_with fail
  refine (KB.out _).mono ?_
  rintro e w3 ⟨rfl, b3⟩
  have c3 := c2.trans (b3.mono c2.size)
  go_wp2_with fail
  have c4 := c3.alloc c3.size (.cells #[.int .u32 301989888] 40)
  have s4 : Sl (w3.alloc (.cells #[.int .u32 301989888] 40)) (w3.alloc (.cells #[.int .u32 301989888] 40)).heap.size (some ⟨w3.heap.size, 0, none⟩) 1 [.int .u32 301989888] := sl_lit rfl rfl
  refine (KG.out _ _ s4).mono ?_
  rintro e w5 ⟨⟨B, c', rfl⟩, b5⟩
  have c5 := c4.trans (b5.mono c4.size)
  go_wp2_with fail
  go_returns
  exact ⟨rfl, c5⟩
end Go.Proofs.YtneebohaanjejaaDoor
