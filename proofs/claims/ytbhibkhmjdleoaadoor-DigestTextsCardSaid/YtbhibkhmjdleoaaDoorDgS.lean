/- Layer 3, the document's text of a digest, walked. -/
import Derived.Test.YtbhibkhmjdleoaaDoorDgQ
import Derived.Test.YtbhibkhmjdleoaaDoorHxR
import Derived.Test.YtbhibkhmjdleoaaDoorDgT
namespace Go.Proofs.YtbhibkhmjdleoaaDoor
open Go.RowKit

theorem own_lit4 (W : World) (E : TypeId) (v0 v1 v2 v3 : Value) : (W.alloc (.cells #[v0, v1, v2, v3] E)).ownsRow W.heap.size E 1 (.slice (some ⟨W.heap.size, 0, none⟩) 4 4) 4 [v0, v1, v2, v3] :=
  ⟨rfl, .inr ⟨W.heap.size, 4, #[v0, v1, v2, v3], rfl, Nat.le_refl _, heap_alloc_new W _, Nat.le_refl _, by unfold maxLen; omega, rfl, rfl⟩⟩
theorem cv4 (x : UInt32) (W : World) : (convert 40 9 (.slice (some ⟨W.heap.size, 0, none⟩) 4 4)).run Tryd.prog (W.alloc (.cells #[.int .u8 ((x.toNat : Int) / 16777216), .int .u8 ((x.toNat : Int) / 65536 % 256), .int .u8 ((x.toNat : Int) / 256 % 256), .int .u8 ((x.toNat : Int) % 256)] 5)) = .ok (.string ⟨(be4 x).toArray⟩) (W.alloc (.cells #[.int .u8 ((x.toNat : Int) / 16777216), .int .u8 ((x.toNat : Int) / 65536 % 256), .int .u8 ((x.toNat : Int) / 256 % 256), .int .u8 ((x.toNat : Int) % 256)] 5)) :=
  run_string_row (be4 x) 40 9 Tryd.underlying40 Tryd.underlying5 Tryd.underlying9 (by rw [be4_vals]; exact own_lit4 ..)
/-- The bytes of the first k words. -/
def beK (f : Nat → UInt32) : Nat → List UInt8
  | 0 => []
  | k + 1 => beK f k ++ be4 (f k)
theorem beK_4 (f : Nat → UInt32) : beK f 4 = beB f := by unfold beB; rfl
theorem beK_length (f : Nat → UInt32) (k : Nat) : (beK f k).length = 4 * k := by
  induction k with
  | zero => rfl
  | succ k ih => rw [beK, List.length_append, ih]; rfl
/-- The digest in the box that the call makes first. -/
structure Tx (w : World) (f : Nat → UInt32) (W : World) : Prop where
  x : Blk W w.heap.size 29 (dgv f)
  bel : Below w.heap.size w W
section
variable {w W W' : World} {f : Nat → UInt32}
theorem Tx.new (w : World) (f : Nat → UInt32) : Tx w f (w.alloc (.cells (dgv f) 29)) := ⟨Blk.new w _ _, (Below.refl _ w).alloc (Nat.le_refl _) _⟩
theorem Tx.below (h : Tx w f W) (hb : Below W.heap.size W W') : Tx w f W' := ⟨h.x.below hb h.x.lt, h.bel.trans (hb.mono h.bel.size)⟩
theorem Tx.drew (h : Tx w f W) : Tx w f W.drew := h.below (Below.refl _ W).drew
theorem Tx.alloc (h : Tx w f W) (o : Obj) : Tx w f (W.alloc o) := h.below ((Below.refl _ W).alloc (Nat.le_refl _) o)
theorem Tx.all (h : Tx w f W) {k : Nat} {x : UInt32} (hk : k < 4) (hx : Hid (f k = x)) : W.cell? ⟨w.heap.size, k, none⟩ = some (.int .u32 x.toNat) ∧ Tx w f W := ⟨((h.x.cell k).trans (dgv_get f k hk)).trans (by rw [hx.out]; rfl), h⟩
end

set_option maxHeartbeats 1000000 in
theorem ref_dText (f : Nat → UInt32) (w : World) :
    Calls Tryd.prog 18 #[.agg (dgv f)] w fun e w' => (∃ t, e = .returned (.string t) ∧ Hid (t.data.toList = hexT (beB f))) ∧ Below w.heap.size w w' := by
  go_enter Tryd.func18, Tryd.ntmps18
  go_wp2_with fail
  have hM0 := Tx.new w f
  unfold dgv at hM0 ⊢
  generalize w.alloc _ = W0 at hM0 ⊢
  go_loopw [3, 4] (fun b i wr => ∃ (k : Nat) (s : ByteArray), k ≤ 4 ∧ i = .int .i64 k ∧ b = .string s ∧ Hid (s.data.toList = beK f k) ∧ Tx w f wr) (fun _ i _ => 4 - (intOf i).toNat)
  case atStart => exact ⟨0, ⟨#[]⟩, by omega, rfl, rfl, rfl, hM0⟩
  case round =>
    clear hM0
    obtain ⟨k, s, hk, rfl, rfl, hs, hM⟩ := hrel
    have hss : s.size = 4 * k := by have h := congrArg List.length hs.out; rw [beK_length] at h; exact h
    by_cases hlt : k < 4
    · have hkI : (k : Int) < 4 := by omega
      have hk0 : (0 : Int) ≤ k := by omega
      obtain ⟨x, hx⟩ : ∃ x, f k = x := ⟨_, rfl⟩
      have HX := Lib.hid hx
      clear hx
      have hx32 := x.toNat_lt
      have q1 : IntKind.u8.wrap ((x.toNat : Int) / 16777216) = (x.toNat : Int) / 16777216 := IntWalk.u8_in _ (by omega)
      have q2 : IntKind.u8.wrap ((x.toNat : Int) / 65536) = (x.toNat : Int) / 65536 % 256 := by rfl
      have q3 : IntKind.u8.wrap ((x.toNat : Int) / 256) = (x.toNat : Int) / 256 % 256 := by rfl
      have q4 : IntKind.u8.wrap (x.toNat : Int) = (x.toNat : Int) % 256 := by rfl
      have hcv := cv4 x
      obtain ⟨T, hT⟩ : ∃ T : ByteArray, (⟨(be4 x).toArray⟩ : ByteArray) = T := ⟨_, rfl⟩
      have hTl : Hid (T.data.toList = be4 x) := by rw [← hT]; rfl
      have hTs : T.size = 4 := by have h := congrArg List.length hTl.out; exact h
      rw [hT] at hcv
      have hcvD : ∀ W : World, (convert 40 9 (.slice (some ⟨W.heap.size, 0, none⟩) 4 4)).run Tryd.prog (W.alloc (.cells #[.int .u8 ((x.toNat : Int) / 16777216), .int .u8 ((x.toNat : Int) / 65536 % 256), .int .u8 ((x.toNat : Int) / 256 % 256), .int .u8 ((x.toNat : Int) % 256)] 5)).drew = .ok (.string T) (W.alloc (.cells #[.int .u8 ((x.toNat : Int) / 16777216), .int .u8 ((x.toNat : Int) / 65536 % 256), .int .u8 ((x.toNat : Int) / 256 % 256), .int .u8 ((x.toNat : Int) % 256)] 5)).drew := fun W => hcv W.drew
      clear hT
      have hcat : ¬ 9223372036854775807 < s.size + T.size := by omega
      clear hss hTs
      go_wp2_with fail
      refine wp_region_held_drew (S := (fun W => W.cell? ⟨w.heap.size, k, none⟩ = some (.int .u32 x.toNat) ∧ Tx w f W)) (by kernel_rfl) (hM.drew.all hlt HX) (fun hHeld => ?_)
      refine wpAnyH_take (i := 0) (v := ?_) rfl (by kernel_rfl) (by kernel_rfl) (by kernel_rfl) (fun _ _ _ h => h) (Or.inl ⟨by kernel_rfl, ?_⟩) (by assumption) ?_
      rotate_left
      · intro w hSw; (try dsimp only at hSw); go_simp; (try with_reducible rfl)
      try simp only [Act.put, List.getElem_toArray, List.getElem_cons_succ, List.getElem_cons_zero, List.setIfInBounds_toArray, List.set_cons_zero, List.set_cons_succ]
      refine wpAnyH_take (i := 1) (v := ?_) rfl (by kernel_rfl) (by kernel_rfl) (by kernel_rfl) (fun _ _ _ h => h) (Or.inl ⟨by kernel_rfl, ?_⟩) (by assumption) ?_
      rotate_left
      · intro w hSw; (try dsimp only at hSw); go_simp; (try with_reducible rfl)
      try simp only [Act.put, List.getElem_toArray, List.getElem_cons_succ, List.getElem_cons_zero, List.setIfInBounds_toArray, List.set_cons_zero, List.set_cons_succ]
      refine wpAnyH_take (i := 2) (v := ?_) rfl (by kernel_rfl) (by kernel_rfl) (by kernel_rfl) (fun _ _ _ h => h) (Or.inl ⟨by kernel_rfl, ?_⟩) (by assumption) ?_
      rotate_left
      · intro w hSw; (try dsimp only at hSw); go_simp; (try with_reducible rfl)
      try simp only [Act.put, List.getElem_toArray, List.getElem_cons_succ, List.getElem_cons_zero, List.setIfInBounds_toArray, List.set_cons_zero, List.set_cons_succ]
      refine wpAnyH_take (i := 3) (v := ?_) rfl (by kernel_rfl) (by kernel_rfl) (by kernel_rfl) (fun _ _ _ h => h) (Or.inl ⟨by kernel_rfl, ?_⟩) (by assumption) ?_
      rotate_left
      · intro w hSw; (try dsimp only at hSw); go_simp; (try with_reducible rfl)
      try simp only [Act.put, List.getElem_toArray, List.getElem_cons_succ, List.getElem_cons_zero, List.setIfInBounds_toArray, List.set_cons_zero, List.set_cons_succ]
      refine wpAnyH_take (i := 4) (v := ?_) rfl (by kernel_rfl) (by kernel_rfl) (by kernel_rfl) (fun _ _ _ h => h) (Or.inl ⟨by kernel_rfl, ?_⟩) (by assumption) ?_
      rotate_left
      · intro w hSw; (try dsimp only at hSw); go_simp; (try with_reducible rfl)
      try simp only [Act.put, List.getElem_toArray, List.getElem_cons_succ, List.getElem_cons_zero, List.setIfInBounds_toArray, List.set_cons_zero, List.set_cons_succ]
      refine wpAnyH_take (i := 5) (v := ?_) rfl (by kernel_rfl) (by kernel_rfl) (by kernel_rfl) (fun _ _ _ h => h) (Or.inl ⟨by kernel_rfl, ?_⟩) (by assumption) ?_
      rotate_left
      · intro w hSw; (try dsimp only at hSw); go_simp; (try with_reducible rfl)
      try simp only [Act.put, List.getElem_toArray, List.getElem_cons_succ, List.getElem_cons_zero, List.setIfInBounds_toArray, List.set_cons_zero, List.set_cons_succ]
      refine wpAnyH_take (i := 6) (v := ?_) rfl (by kernel_rfl) (by kernel_rfl) (by kernel_rfl) (fun _ _ _ h => h) (Or.inl ⟨by kernel_rfl, ?_⟩) (by assumption) ?_
      rotate_left
      · intro w hSw; (try dsimp only at hSw); go_simp; (try with_reducible rfl)
      try simp only [Act.put, List.getElem_toArray, List.getElem_cons_succ, List.getElem_cons_zero, List.setIfInBounds_toArray, List.set_cons_zero, List.set_cons_succ]
      refine wpAnyH_take (i := 7) (v := ?_) rfl (by kernel_rfl) (by kernel_rfl) (by kernel_rfl) (fun _ _ _ h => h) (Or.inl ⟨by kernel_rfl, ?_⟩) (by assumption) ?_
      rotate_left
      · intro w hSw; (try dsimp only at hSw); go_simp; (try with_reducible rfl)
      try simp only [Act.put, List.getElem_toArray, List.getElem_cons_succ, List.getElem_cons_zero, List.setIfInBounds_toArray, List.set_cons_zero, List.set_cons_succ]
      refine wpAnyH_take (i := 8) (v := ?_) rfl (by kernel_rfl) (by kernel_rfl) (by kernel_rfl) (fun _ _ _ h => h) (Or.inl ⟨by kernel_rfl, ?_⟩) (by assumption) ?_
      rotate_left
      · intro w hSw; (try dsimp only at hSw); go_simp; (try with_reducible rfl)
      try simp only [Act.put, List.getElem_toArray, List.getElem_cons_succ, List.getElem_cons_zero, List.setIfInBounds_toArray, List.set_cons_zero, List.set_cons_succ]
      refine wpAnyH_take (i := 9) (v := ?_) rfl (by kernel_rfl) (by kernel_rfl) (by kernel_rfl) (fun _ _ _ h => h) (Or.inl ⟨by kernel_rfl, ?_⟩) (by assumption) ?_
      rotate_left
      · intro w hSw; (try dsimp only at hSw); go_simp; (try with_reducible rfl)
      try simp only [Act.put, List.getElem_toArray, List.getElem_cons_succ, List.getElem_cons_zero, List.setIfInBounds_toArray, List.set_cons_zero, List.set_cons_succ]
      refine wpAnyH_take (i := 10) (v := ?_) rfl (by kernel_rfl) (by kernel_rfl) (by kernel_rfl) (fun _ _ _ h => h) (Or.inl ⟨by kernel_rfl, ?_⟩) (by assumption) ?_
      rotate_left
      · intro w hSw; (try dsimp only at hSw); go_simp; (try with_reducible rfl)
      try simp only [Act.put, List.getElem_toArray, List.getElem_cons_succ, List.getElem_cons_zero, List.setIfInBounds_toArray, List.set_cons_zero, List.set_cons_succ]
      refine wpAnyH_take (i := 11) (v := ?_) rfl (by kernel_rfl) (by kernel_rfl) (by kernel_rfl) (fun _ _ _ h => h) (Or.inl ⟨by kernel_rfl, ?_⟩) (by assumption) ?_
      rotate_left
      · intro w hSw; (try dsimp only at hSw); go_simp; (try with_reducible rfl)
      try simp only [Act.put, List.getElem_toArray, List.getElem_cons_succ, List.getElem_cons_zero, List.setIfInBounds_toArray, List.set_cons_zero, List.set_cons_succ]
      refine wpAnyH_take (i := 12) (v := ?_) rfl (by kernel_rfl) (by kernel_rfl) (by kernel_rfl) (fun _ _ _ h => h) (Or.inl ⟨by kernel_rfl, ?_⟩) (by assumption) ?_
      rotate_left
      · intro w hSw; (try dsimp only at hSw); go_simp; (try with_reducible rfl)
      try simp only [Act.put, List.getElem_toArray, List.getElem_cons_succ, List.getElem_cons_zero, List.setIfInBounds_toArray, List.set_cons_zero, List.set_cons_succ]
      refine wpAnyH_take (i := 13) (v := ?_) rfl (by kernel_rfl) (by kernel_rfl) (by kernel_rfl) (fun _ _ _ h => h) (Or.inl ⟨by kernel_rfl, ?_⟩) (by assumption) ?_
      rotate_left
      · intro w hSw; (try dsimp only at hSw); go_simp; (try with_reducible rfl)
      try simp only [Act.put, List.getElem_toArray, List.getElem_cons_succ, List.getElem_cons_zero, List.setIfInBounds_toArray, List.set_cons_zero, List.set_cons_succ]
      refine wpAnyH_take (i := 14) (v := ?_) rfl (by kernel_rfl) (by kernel_rfl) (by kernel_rfl) (fun _ _ _ h => h) (Or.inl ⟨by kernel_rfl, ?_⟩) (by assumption) ?_
      rotate_left
      · intro w hSw; (try dsimp only at hSw); go_simp; (try with_reducible rfl)
      try simp only [Act.put, List.getElem_toArray, List.getElem_cons_succ, List.getElem_cons_zero, List.setIfInBounds_toArray, List.set_cons_zero, List.set_cons_succ]
      refine wpAnyH_take (i := 15) (v := ?_) rfl (by kernel_rfl) (by kernel_rfl) (by kernel_rfl) (fun _ _ _ h => h) (Or.inl ⟨by kernel_rfl, ?_⟩) (by assumption) ?_
      rotate_left
      · intro w hSw; (try dsimp only at hSw); go_simp; (try with_reducible rfl)
      try simp only [Act.put, List.getElem_toArray, List.getElem_cons_succ, List.getElem_cons_zero, List.setIfInBounds_toArray, List.set_cons_zero, List.set_cons_succ]
      refine wpAnyH_take (i := 16) (v := ?_) rfl (by kernel_rfl) (by kernel_rfl) (by kernel_rfl) (fun _ _ _ h => h) (Or.inl ⟨by kernel_rfl, ?_⟩) (by assumption) ?_
      rotate_left
      · intro w hSw; (try dsimp only at hSw); go_simp; (try with_reducible rfl)
      try simp only [Act.put, List.getElem_toArray, List.getElem_cons_succ, List.getElem_cons_zero, List.setIfInBounds_toArray, List.set_cons_zero, List.set_cons_succ]
      refine wpAnyH_take (i := 17) (v := ?_) rfl (by kernel_rfl) (by kernel_rfl) (by kernel_rfl) (fun _ _ _ h => h) (Or.inl ⟨by kernel_rfl, ?_⟩) (by assumption) ?_
      rotate_left
      · intro w hSw; (try dsimp only at hSw); go_simp; (try with_reducible rfl)
      try simp only [Act.put, List.getElem_toArray, List.getElem_cons_succ, List.getElem_cons_zero, List.setIfInBounds_toArray, List.set_cons_zero, List.set_cons_succ]
      refine wpAnyH_take (i := 18) (v := ?_) rfl (by kernel_rfl) (by kernel_rfl) (by kernel_rfl) (fun _ _ _ h => h) (Or.inl ⟨by kernel_rfl, ?_⟩) (by assumption) ?_
      rotate_left
      · intro w hSw; (try dsimp only at hSw); go_simp; (try with_reducible rfl)
      try simp only [Act.put, List.getElem_toArray, List.getElem_cons_succ, List.getElem_cons_zero, List.setIfInBounds_toArray, List.set_cons_zero, List.set_cons_succ]
      refine wpAnyH_take (i := 19) (v := ?_) rfl (by kernel_rfl) (by kernel_rfl) (by kernel_rfl) (fun _ _ _ h => h) (Or.inl ⟨by kernel_rfl, ?_⟩) (by assumption) ?_
      rotate_left
      · intro w hSw; (try dsimp only at hSw); go_simp; (try with_reducible rfl)
      try simp only [Act.put, List.getElem_toArray, List.getElem_cons_succ, List.getElem_cons_zero, List.setIfInBounds_toArray, List.set_cons_zero, List.set_cons_succ]
      refine wpAnyH_ready (rs := [20]) (by kernel_rfl) (by simp) ?_
      refine AllReadyH.cons rfl (fun K hK => ?_) AllReadyH.nil
      go_simp
      refine hK.out _ _ ((hM.drew.alloc _).all hlt HX) (fun hHeld => ?_)
      clear hK K
      try simp only [Act.put, List.getElem_toArray, List.getElem_cons_succ, List.getElem_cons_zero, List.setIfInBounds_toArray, List.set_cons_zero, List.set_cons_succ]
      refine wpAnyH_ready (rs := [21]) (by kernel_rfl) (by simp) ?_
      refine AllReadyH.cons rfl (fun K hK => ?_) AllReadyH.nil
      go_simp
      refine hK.out _ _ ((hM.drew.alloc _).all hlt HX) (fun hHeld => ?_)
      clear hK K
      try simp only [Act.put, List.getElem_toArray, List.getElem_cons_succ, List.getElem_cons_zero, List.setIfInBounds_toArray, List.set_cons_zero, List.set_cons_succ]
      refine wpAnyH_take (i := 22) (v := ?_) rfl (by kernel_rfl) (by kernel_rfl) (by kernel_rfl) (fun _ _ _ h => h) (Or.inl ⟨by kernel_rfl, ?_⟩) (by assumption) ?_
      rotate_left
      · intro w hSw; (try dsimp only at hSw); go_simp; (try with_reducible rfl)
      try simp only [Act.put, List.getElem_toArray, List.getElem_cons_succ, List.getElem_cons_zero, List.setIfInBounds_toArray, List.set_cons_zero, List.set_cons_succ]
      refine wpAnyH_take (i := 23) (v := ?_) rfl (by kernel_rfl) (by kernel_rfl) (by kernel_rfl) (fun _ _ _ h => h) (Or.inl ⟨by kernel_rfl, ?_⟩) (by assumption) ?_
      rotate_left
      · intro w hSw; (try dsimp only at hSw); go_simp; (try with_reducible rfl)
      try simp only [Act.put, List.getElem_toArray, List.getElem_cons_succ, List.getElem_cons_zero, List.setIfInBounds_toArray, List.set_cons_zero, List.set_cons_succ]
      refine wpAnyH_done (by kernel_rfl) ?_ _
      have hM2 := hM.drew.alloc (.cells #[.int .u8 ((x.toNat : Int) / 16777216), .int .u8 ((x.toNat : Int) / 65536 % 256), .int .u8 ((x.toNat : Int) / 256 % 256), .int .u8 ((x.toNat : Int) % 256)] 5)
      go_wp2_with fail

      go_roundw
      case rel => exact ⟨k + 1, s ++ T, hlt, rfl, rfl, by unfold Hid; rw [ba_append, hs.out, hTl.out, beK, HX.out], hM2⟩
      case measure => simp [intOf]; omega
    · obtain rfl : k = 4 := by omega
      rw [beK_4] at hs
      go_wp2_with fail
      refine (ref_hexText s _ (by omega)).mono ?_
      rintro e w5 ⟨⟨t, rfl, ht⟩, hb5⟩
      go_wp2_with fail
      go_returns
      exact ⟨⟨t, rfl, by unfold Hid; rw [ht.out, hs.out]⟩, (hM.below hb5).bel⟩
end Go.Proofs.YtbhibkhmjdleoaaDoor
