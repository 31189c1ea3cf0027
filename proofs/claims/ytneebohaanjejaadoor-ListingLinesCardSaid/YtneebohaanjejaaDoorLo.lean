/- Layer 11: the targets in order, walked: the program's. -/
import Derived.Test.YtneebohaanjejaaDoorLn
namespace Go.Proofs.YtneebohaanjejaaDoor
open Go.RowKit Go.Maps Go.Sort Go.Shelf

theorem sortsA (m : Nat) : AnyZI.SortsIn Tryd.prog sortedA_ren Fence.wide m :=
  ⟨fun blk off cap ss W hH hblk hsz => callsIn_wide.2 (AnyM.slices_Sort_int sortA blk off cap ss W hH hblk hsz),
   fun p cap W => callsIn_wide.2 (AnyM.slices_Sort_int_none sortA p cap W)⟩
theorem targL_len (code : List UInt32) : (targL code).length ≤ code.length := by
  unfold targL
  have := List.length_filter_le (isT code) (List.range code.length)
  rwa [List.length_range] at this
def tv (i : Nat) : Value := .int .i64 (i : Int)

set_option maxHeartbeats 2000000 in
theorem listing_TargetsC (A : Option Addr) (code : List UInt32) (c : Nat) (d : Int) (w : World) (hA : Sl w w.heap.size A code.length (code.map wv)) (hn : code.length ≤ 20000) :
    Calls Tryd.prog 20 #[.agg #[.slice A code.length c, .int .i64 d]] w fun e w' => (∃ B c', e = .returned (.slice B (targL code).length c') ∧ Sl w' w'.heap.size B (targL code).length ((targL code).map tv) ∧ (targL code).length ≤ c') ∧ Below w.heap.size w w' := by
  refine (callsIn_wide (n := 6)).1 ?_
  have T0 := Tg.new w A code.length c d
  have t0 := T0.cells.1
  have t1 := T0.cells.2
  have KT : Hid (∀ W : World, Below w.heap.size w W → CallsIn Fence.wide 5 Tryd.prog 47 #[.agg #[.slice A code.length c, .int .i64 d]] W fun e w' => (∃ b, e = .returned (.map (some b)) ∧ W.heap.size ≤ b ∧ Tm w' b code code.length) ∧ Below W.heap.size W w') :=
    fun W h => callsIn_wide.2 (listing_targets A code c d W ((hA.below h).more h.size) hn)
  have cK : ∀ mb W, CallsIn Fence.wide 5 Tryd.prog 46 #[.map mb] W fun e w' => e = .returned (.func (.func 77) #[] #[.pointer (some ⟨W.heap.size, 0, none⟩)]) ∧ w' = W.alloc (.cells #[.map mb] 84) := fun mb W => AnyZI.keys_in keysA Fence.wide 5 trivial rfl mb W
  have hfT : Fence.wide.fn 47 := trivial
  have hfK : Fence.wide.fn 46 := trivial
  have hfS : Fence.wide.fn 45 := trivial
  refine callsIn_of_wp Tryd.func20 rfl trivial ?_ rfl
  simp only [Tryd.ntmps20, List.size_toArray, List.length_cons, List.length_nil, Nat.reduceAdd, Nat.reduceSub, Array.replicate_succ, Array.replicate_zero, List.push_toArray, List.append_toArray, List.nil_append, List.cons_append]
  gi_wp2_with (gi_at_call 47; refine (KT.out _ T0.bel).mono ?_)
  rintro e w1 ⟨⟨b, rfl, hb, hM⟩, hbe⟩
  have T1 := T0.below hbe
  obtain ⟨n, D, hnn, hown, hS⟩ := hM
  have hbl := hown.lt
  have hsz : Maps.size D ≤ code.length := Nat.le_trans hown.size_le hnn
  have hown1 : (w1.alloc (.cells #[.map (some b)] 84)).ownsMap Tryd.prog 3 (plainElem (H := Unit) Tryd.prog 4) b n D := hown.alloc _
  have hseq : SeqGives Fence.wide 2 Tryd.prog 77 #[.pointer (some ⟨w1.heap.size, 0, none⟩)] encZ (fun ss => ss.Perm (intKeys D)) (Maps.size D) (w1.alloc (.cells #[.map (some b)] 84)) :=
    AnyZI.keys_gives (ρ := keysA_ren) { keysA with } Fence.wide _ trivial rfl (by omega) w1.heap.size b n D _ (by simp) (by simp) hown1
  have cS := AnyZI.sorted_in sortedA Fence.wide 5 trivial trivial trivial trivial rfl (by omega) (sortsA _) (enters_of Tryd.func76 (by kernel_rfl) rfl) 77 #[.pointer (some ⟨w1.heap.size, 0, none⟩)] trivial (enters_of Tryd.func77 (by kernel_rfl) rfl) _ _ (by unfold maxLen; omega) (by omega) _ hseq
  change CallsIn _ _ Tryd.prog 45 _ _ _ at cS
  gi_wp2_with (first
    | (gi_at_call 46; refine (cK _ _).mono ?_; rintro e w' ⟨rfl, rfl⟩)
    | (gi_at_call 45; refine cS.mono ?_; rintro e w2 ⟨v, ss, rfl, hP, hrow, hnil, hb2⟩))
  have hk := keys_targ hS hown1 Tryd.underlying3 hP
  rw [hk.1, hk.2, List.map_map] at hrow
  obtain ⟨B, c', rfl, hc', -, hSl⟩ := Sl.of_own hrow
  go_ret
  exact ⟨⟨B, c', rfl, hSl, hc'⟩, (T1.alloc _).bel.trans (hb2.mono (T1.alloc _).bel.size)⟩
theorem listing_Targets (A : Option Addr) (code : List UInt32) (c : Nat) (d : Int) (w : World) (hA : Sl w w.heap.size A code.length (code.map wv)) (hn : code.length ≤ 20000) :
    Calls Tryd.prog 20 #[.agg #[.slice A code.length c, .int .i64 d]] w fun e w' => (∃ B c', e = .returned (.slice B (targL code).length c') ∧ Sl w' w'.heap.size B (targL code).length ((targL code).map tv)) ∧ Below w.heap.size w w' :=
  (listing_TargetsC A code c d w hA hn).mono fun _ _ ⟨⟨B, c', h1, h2, _⟩, hb⟩ => ⟨⟨B, c', h1, h2⟩, hb⟩
end Go.Proofs.YtneebohaanjejaaDoor
