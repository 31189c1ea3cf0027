/- Layer 8: an image may be or not; its bytes; walked: the program's and the document's. -/
import Derived.Deep.RegionHeld3
import Derived.Test.YtknonabeagbjeaaGreatDoorInfo
import Derived.Test.YtknonabeagbjeaaGreatDoorRefE
namespace Go.Proofs.YtknonabeagbjeaaGreatDoor
open Go.RowKit

def rightB (n : Nat) (d : Int) : Bool := decide (n ≤ 16384 ∧ 0 ≤ d ∧ d ≤ 32768)

theorem image_Right (A : Option Addr) (n c : Nat) (d : Int) (w : World) :
    Calls Tryz.prog 6 #[.agg #[.slice A n c, .int .i64 d]] w fun e w' => e = .returned (.bool (rightB n d)) ∧ Below w.heap.size w w' := by
  go_enter Tryz.func6, Tryz.ntmps6
  go_wp2
  all_goals go_returns
  all_goals refine ⟨ret_bool ?_, (Below.refl _ w).alloc (Nat.le_refl _) _⟩
  all_goals go_light
  all_goals unfold rightB
  all_goals first | exact decide_eq_decide.2 (by omega) | exact (decide_eq_false (by omega)).symm
/-- What holds at every step of the statement that puts an image's parts together: the box of the image, and what lay before. -/
def PutS (w : World) (A : Option Addr) (n c : Nat) (d : Int) (w' : World) : Prop :=
  w'.cell? ⟨w.heap.size, 0, none⟩ = some (.slice A n c) ∧ w'.cell? ⟨w.heap.size, 1, none⟩ = some (.int .i64 d) ∧ Below w.heap.size w w' ∧ w.heap.size < w'.heap.size
section
variable {w w1 w2 : World} {A : Option Addr} {n c : Nat} {d : Int}
theorem PutS.below (h : PutS w A n c d w1) (hb : Below w1.heap.size w1 w2) : PutS w A n c d w2 :=
  ⟨(hb.cell (p := ⟨w.heap.size, 0, none⟩) h.2.2.2).trans h.1, (hb.cell (p := ⟨w.heap.size, 1, none⟩) h.2.2.2).trans h.2.1, h.2.2.1.trans (hb.mono (Nat.le_of_lt h.2.2.2)), Nat.lt_of_lt_of_le h.2.2.2 hb.size⟩
theorem PutS.alloc (h : PutS w A n c d w1) (o : Obj) : PutS w A n c d (w1.alloc o) := h.below ((Below.refl _ w1).alloc (Nat.le_refl _) o)
theorem PutS.all (h : PutS w A n c d w1) : w1.cell? ⟨w.heap.size, 0, none⟩ = some (.slice A n c) ∧ w1.cell? ⟨w.heap.size, 1, none⟩ = some (.int .i64 d) ∧ PutS w A n c d w1 := ⟨h.1, h.2.1, h⟩
theorem PutS.drew (h : PutS w A n c d w1) : PutS w A n c d w1.drew := h.below (Below.refl _ w1).drew
end
theorem sl_put {w1 : World} {E : TypeId} (n : Nat) (d : Int) (_hn : n ≤ 16384) (h0 : 0 ≤ d) (h1 : d ≤ 32768) :
    Sl ((w1.alloc (.cells #[.int .u32 (IntKind.u32.wrap n), .int .u32 (IntKind.u32.wrap d)] E)).drew) ((w1.alloc (.cells #[.int .u32 (IntKind.u32.wrap n), .int .u32 (IntKind.u32.wrap d)] E)).drew).heap.size (some ⟨w1.heap.size, 0, none⟩) 2 ([UInt32.ofNat n, UInt32.ofNat d.toNat].map wv) := by
  have e1 : IntKind.u32.wrap (n : Int) = (UInt32.ofNat n).toNat := by rw [UInt32.toNat_ofNat', IntKind.wrap_u32']; omega
  have e2 : IntKind.u32.wrap d = (UInt32.ofNat d.toNat).toNat := by rw [UInt32.toNat_ofNat', IntKind.wrap_u32']; omega
  rw [e1, e2]
  refine ⟨rfl, fun _ => ⟨w1.heap.size, 0, rfl, by simp, fun i u hu => ?_⟩⟩
  show (w1.alloc _).cell? _ = _
  rw [Nat.zero_add, World.cell?_alloc_mark]
  match i, hu with
  | 0, hu => exact hu
  | 1, hu => exact hu
theorem leBytes_size {s : ByteArray} {l : List UInt32} (h : Hid (s.data.toList = leBytes l)) : s.size ≤ 4 * l.length := by
  have e : s.data.toList.length = s.size := rfl
  rw [h.out, leBytes_length] at e; omega
def putI (code : List UInt32) (d : Int) : List UInt8 := [83, 69, 69, 68] ++ leBytes [UInt32.ofNat code.length, UInt32.ofNat d.toNat] ++ leBytes code
end Go.Proofs.YtknonabeagbjeaaGreatDoor
