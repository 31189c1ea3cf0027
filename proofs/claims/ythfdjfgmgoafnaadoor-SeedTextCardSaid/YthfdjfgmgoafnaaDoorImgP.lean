/- Layer 8: an image may be or not; its bytes; walked: the program's and the document's. -/
import Derived.Deep.RegionHeld3
import Derived.Test.YthfdjfgmgoafnaaDoorHxA
import Derived.Test.YthfdjfgmgoafnaaDoorRefE
namespace Go.Proofs.YthfdjfgmgoafnaaDoor
open Go.RowKit

def rightB (n : Nat) (d : Int) : Bool := decide (n ≤ 16384 ∧ 0 ≤ d ∧ d ≤ 32768)

theorem image_Right (A : Option Addr) (n c : Nat) (d : Int) (w : World) :
    Calls Tryd.prog 47 #[.agg #[.slice A n c, .int .i64 d]] w fun e w' => e = .returned (.bool (rightB n d)) ∧ Below w.heap.size w w' := by
  go_enter Tryd.func47, Tryd.ntmps47
  go_wp2
  all_goals go_returns
  all_goals refine ⟨ret_bool ?_, (Below.refl _ w).alloc (Nat.le_refl _) _⟩
  all_goals go_light
  all_goals unfold rightB
  all_goals first | exact decide_eq_decide.2 (by omega) | exact (decide_eq_false (by omega)).symm
theorem ref_Right (A : Option Addr) (n c : Nat) (d : Int) (w : World) :
    Calls Tryd.prog 23 #[.agg #[.slice A n c, .int .i64 d]] w fun e w' => e = .returned (.bool (rightB n d)) ∧ Below w.heap.size w w' := by
  go_enter Tryd.func23, Tryd.ntmps23
  go_wp2
  all_goals go_returns
  all_goals refine ⟨ret_bool ?_, (Below.refl _ w).alloc (Nat.le_refl _) _⟩
  all_goals go_light
  all_goals unfold rightB
  all_goals first | exact decide_eq_decide.2 (by omega) | exact (decide_eq_false (by omega)).symm
/-- What holds at every step of the statement that puts an image's parts together: the box of the image, and what lay before. -/
def PutS (w : World) (A : Option Addr) (n c : Nat) (d : Int) (w' : World) : Prop :=
  w'.cell? ⟨w.heap.size, 0, none⟩ = some (.slice A n c) ∧ w'.cell? ⟨w.heap.size, 1, none⟩ = some (.int .i64 d) ∧ Below w.heap.size w w' ∧ w.heap.size < w'.heap.size
section
variable {w w1 w2 : World} {A : Option Addr} {n c : Nat} {d : Int}
theorem PutS.below (h : PutS w A n c d w1) (hb : Below w1.heap.size w1 w2) : PutS w A n c d w2 :=
  ⟨(hb.cell (p := ⟨w.heap.size, 0, none⟩) h.2.2.2).trans h.1, (hb.cell (p := ⟨w.heap.size, 1, none⟩) h.2.2.2).trans h.2.1, h.2.2.1.trans (hb.mono (Nat.le_of_lt h.2.2.2)), Nat.lt_of_lt_of_le h.2.2.2 hb.size⟩
theorem PutS.alloc (h : PutS w A n c d w1) (o : Obj) : PutS w A n c d (w1.alloc o) := h.below ((Below.refl _ w1).alloc (Nat.le_refl _) o)
theorem PutS.all (h : PutS w A n c d w1) : w1.cell? ⟨w.heap.size, 0, none⟩ = some (.slice A n c) ∧ w1.cell? ⟨w.heap.size, 1, none⟩ = some (.int .i64 d) ∧ PutS w A n c d w1 := ⟨h.1, h.2.1, h⟩
theorem PutS.drew (h : PutS w A n c d w1) : PutS w A n c d w1.drew := h.below (Below.refl _ w1).drew
end
theorem sl_put {w1 : World} {E : TypeId} (n : Nat) (d : Int) (_hn : n ≤ 16384) (h0 : 0 ≤ d) (h1 : d ≤ 32768) :
    Sl ((w1.alloc (.cells #[.int .u32 (IntKind.u32.wrap n), .int .u32 (IntKind.u32.wrap d)] E)).drew) ((w1.alloc (.cells #[.int .u32 (IntKind.u32.wrap n), .int .u32 (IntKind.u32.wrap d)] E)).drew).heap.size (some ⟨w1.heap.size, 0, none⟩) 2 ([UInt32.ofNat n, UInt32.ofNat d.toNat].map wv) := by
  have e1 : IntKind.u32.wrap (n : Int) = (UInt32.ofNat n).toNat := by rw [UInt32.toNat_ofNat', IntKind.wrap_u32']; omega
  have e2 : IntKind.u32.wrap d = (UInt32.ofNat d.toNat).toNat := by rw [UInt32.toNat_ofNat', IntKind.wrap_u32']; omega
  rw [e1, e2]
  refine ⟨rfl, fun _ => ⟨w1.heap.size, 0, rfl, by simp, fun i u hu => ?_⟩⟩
  show (w1.alloc _).cell? _ = _
  rw [Nat.zero_add, World.cell?_alloc_mark]
  match i, hu with
  | 0, hu => exact hu
  | 1, hu => exact hu
theorem leBytes_size {s : ByteArray} {l : List UInt32} (h : Hid (s.data.toList = leBytes l)) : s.size ≤ 4 * l.length := by
  have e : s.data.toList.length = s.size := rfl
  rw [h.out, leBytes_length] at e; omega
def putI (code : List UInt32) (d : Int) : List UInt8 := [83, 69, 69, 68] ++ leBytes [UInt32.ofNat code.length, UInt32.ofNat d.toNat] ++ leBytes code
theorem image_Put (A : Option Addr) (code : List UInt32) (c : Nat) (d : Int) (w : World) (hA : Sl w w.heap.size A code.length (code.map wv)) (hr : rightB code.length d = true) :
    Calls Tryd.prog 27 #[.agg #[.slice A code.length c, .int .i64 d]] w fun e w' => (∃ s, e = .returned (.tuple #[.string s, .int .i64 0]) ∧ Hid (s.data.toList = putI code d)) ∧ Below w.heap.size w w' := by
  have hr2 := of_decide_eq_true hr
  have hN : (UInt32.ofNat code.length).toNat = code.length := by rw [UInt32.toNat_ofNat']; omega
  have hD : (UInt32.ofNat d.toNat).toNat = d.toNat := by rw [UInt32.toNat_ofNat']; omega
  have HN := Lib.hid hN
  have HD := Lib.hid hD
  have hn1 : code.length ≤ 16384 := hr2.1
  have hd0 : 0 ≤ d := hr2.2.1
  have hd1 : d ≤ 32768 := hr2.2.2
  clear hN hD hr2
  go_enter Tryd.func27, Tryd.ntmps27
  go_wp2_with fail
  refine (image_Right _ _ _ _ _).mono ?_
  rintro e w1 ⟨rfl, hb1⟩
  have hB1 := below_new hb1
  have hc0 : w1.cell? ⟨w.heap.size, 0, none⟩ = some (.slice A code.length c) := (hb1.cell (p := ⟨w.heap.size, 0, none⟩) (by simp)).trans (World.cell?_alloc_mark _ _ _ _ _)
  have hc1 : w1.cell? ⟨w.heap.size, 1, none⟩ = some (.int .i64 d) := (hb1.cell (p := ⟨w.heap.size, 1, none⟩) (by simp)).trans (World.cell?_alloc_mark _ _ _ _ _)
  have hs1 : w.heap.size < w1.heap.size := by have := hb1.size; simp at this; omega
  have hS : PutS w A code.length c d w1 := ⟨hc0, hc1, hB1, hs1⟩
  clear hb1 hc0 hc1 hs1
  go_wp2_with fail
  go_region_held3 (fun w' => w'.cell? ⟨w.heap.size, 0, none⟩ = some (.slice A code.length c) ∧ w'.cell? ⟨w.heap.size, 1, none⟩ = some (.int .i64 d) ∧ PutS w A code.length c d w') ((refine PutS.all ?_; repeat (first | assumption | (refine PutS.drew ?_) | (refine PutS.alloc ?_ _))))
    ((first
      | (go_at_call 16; (with_reducible refine (word_Bytes [UInt32.ofNat code.length, UInt32.ofNat d.toNat] (some ⟨w1.heap.size, 0, none⟩) 2 2 _ ?_ ?_).mono ?_); (exact sl_put _ _ hn1 hd0 hd1); (decide); rintro e w2 ⟨⟨b1, rfl, hb1⟩, hbe1⟩; have hP2 := PutS.below ((hS.alloc _).drew) hbe1; have hz1 : b1.size ≤ 8 := leBytes_size hb1; have hq1 : ¬ 9223372036854775807 < 4 + b1.size := by omega)
      | (go_at_call 16; (with_reducible refine (word_Bytes code A code.length c _ ?_ ?_).mono ?_); (exact (hA.below hP2.2.2.1).more hP2.2.2.1.size); (omega); rintro e w3 ⟨⟨b2, rfl, hb2⟩, hbe2⟩; have hP3 := PutS.below hP2 hbe2; have hz2 : b2.size ≤ 65536 := Nat.le_trans (leBytes_size hb2) (by omega); have hq2 : ¬ 9223372036854775807 < 4 + b1.size + b2.size := by omega)))
  go_wp2
  go_returns
  exact ⟨⟨_, rfl, by unfold Hid putI; rw [ba_append, ba_append, hb1.out, hb2.out]⟩, hP3.2.2.1⟩
theorem image_Put_bad (A : Option Addr) (n c : Nat) (d : Int) (w : World) (hr : rightB n d = false) :
    Calls Tryd.prog 27 #[.agg #[.slice A n c, .int .i64 d]] w fun e w' => e = .returned (.tuple #[.string ⟨#[]⟩, .int .i64 1]) ∧ Below w.heap.size w w' := by
  go_enter Tryd.func27, Tryd.ntmps27
  go_wp2_with (go_at_call 47; refine (image_Right _ _ _ _ _).mono ?_; rintro e w1 ⟨rfl, hb1⟩)
  go_returns
  exact ⟨rfl, below_new hb1⟩
theorem ref_Put (A : Option Addr) (code : List UInt32) (c : Nat) (d : Int) (w : World) (hA : Sl w w.heap.size A code.length (code.map wv)) (hr : rightB code.length d = true) :
    Calls Tryd.prog 7 #[.agg #[.slice A code.length c, .int .i64 d]] w fun e w' => (∃ s, e = .returned (.tuple #[.string s, .int .i64 0]) ∧ Hid (s.data.toList = putI code d)) ∧ Below w.heap.size w w' := by
  have hr2 := of_decide_eq_true hr
  have hN : (UInt32.ofNat code.length).toNat = code.length := by rw [UInt32.toNat_ofNat']; omega
  have hD : (UInt32.ofNat d.toNat).toNat = d.toNat := by rw [UInt32.toNat_ofNat']; omega
  have HN := Lib.hid hN
  have HD := Lib.hid hD
  have hn1 : code.length ≤ 16384 := hr2.1
  have hd0 : 0 ≤ d := hr2.2.1
  have hd1 : d ≤ 32768 := hr2.2.2
  clear hN hD hr2
  go_enter Tryd.func7, Tryd.ntmps7
  go_wp2_with fail
  refine (ref_Right _ _ _ _ _).mono ?_
  rintro e w1 ⟨rfl, hb1⟩
  have hB1 := below_new hb1
  have hc0 : w1.cell? ⟨w.heap.size, 0, none⟩ = some (.slice A code.length c) := (hb1.cell (p := ⟨w.heap.size, 0, none⟩) (by simp)).trans (World.cell?_alloc_mark _ _ _ _ _)
  have hc1 : w1.cell? ⟨w.heap.size, 1, none⟩ = some (.int .i64 d) := (hb1.cell (p := ⟨w.heap.size, 1, none⟩) (by simp)).trans (World.cell?_alloc_mark _ _ _ _ _)
  have hs1 : w.heap.size < w1.heap.size := by have := hb1.size; simp at this; omega
  have hS : PutS w A code.length c d w1 := ⟨hc0, hc1, hB1, hs1⟩
  clear hb1 hc0 hc1 hs1
  go_wp2_with fail
  go_region_held3 (fun w' => w'.cell? ⟨w.heap.size, 0, none⟩ = some (.slice A code.length c) ∧ w'.cell? ⟨w.heap.size, 1, none⟩ = some (.int .i64 d) ∧ PutS w A code.length c d w') ((refine PutS.all ?_; repeat (first | assumption | (refine PutS.drew ?_) | (refine PutS.alloc ?_ _))))
    ((first
      | (go_at_call 24; (with_reducible refine (ref_Bytes [UInt32.ofNat code.length, UInt32.ofNat d.toNat] (some ⟨w1.heap.size, 0, none⟩) 2 2 _ ?_ ?_).mono ?_); (exact sl_put _ _ hn1 hd0 hd1); (decide); rintro e w2 ⟨⟨b1, rfl, hb1⟩, hbe1⟩; have hP2 := PutS.below ((hS.alloc _).drew) hbe1; have hz1 : b1.size ≤ 8 := leBytes_size hb1; have hq1 : ¬ 9223372036854775807 < 4 + b1.size := by omega)
      | (go_at_call 24; (with_reducible refine (ref_Bytes code A code.length c _ ?_ ?_).mono ?_); (exact (hA.below hP2.2.2.1).more hP2.2.2.1.size); (omega); rintro e w3 ⟨⟨b2, rfl, hb2⟩, hbe2⟩; have hP3 := PutS.below hP2 hbe2; have hz2 : b2.size ≤ 65536 := Nat.le_trans (leBytes_size hb2) (by omega); have hq2 : ¬ 9223372036854775807 < 4 + b1.size + b2.size := by omega)))
  go_wp2
  go_returns
  exact ⟨⟨_, rfl, by unfold Hid putI; rw [ba_append, ba_append, hb1.out, hb2.out]⟩, hP3.2.2.1⟩
theorem ref_Put_bad (A : Option Addr) (n c : Nat) (d : Int) (w : World) (hr : rightB n d = false) :
    Calls Tryd.prog 7 #[.agg #[.slice A n c, .int .i64 d]] w fun e w' => e = .returned (.tuple #[.string ⟨#[]⟩, .int .i64 1]) ∧ Below w.heap.size w w' := by
  go_enter Tryd.func7, Tryd.ntmps7
  go_wp2_with (go_at_call 23; refine (ref_Right _ _ _ _ _).mono ?_; rintro e w1 ⟨rfl, hb1⟩)
  go_returns
  exact ⟨rfl, below_new hb1⟩
end Go.Proofs.YthfdjfgmgoafnaaDoor
