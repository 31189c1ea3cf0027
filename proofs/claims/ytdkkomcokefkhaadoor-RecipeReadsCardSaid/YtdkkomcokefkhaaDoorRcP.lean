/- Layer 37: words gathered behind one another (the closure in Put). -/
/- Layer 37, plain: a recipe's words and bytes. -/
import Derived.Test.YtdkkomcokefkhaaDoorRcB
import Derived.Test.YtdkkomcokefkhaaDoorApp
import Derived.Test.YtdkkomcokefkhaaDoorPb
namespace Go.Proofs.YtdkkomcokefkhaaDoor
open Go.RowKit

/-- A cell of the call's own (block L) that holds a row of words, its row behind L. -/
def Gt (w : World) (L : Nat) (ws : List UInt32) : Prop := ∃ v, Blk w L 46 #[v] ∧ w.ownsRow (L + 1) 22 1 v ws.length (ws.map wv)
theorem Gt.below {w w' : World} {L : Nat} {ws : List UInt32} (h : Gt w L ws) (hb : Below w.heap.size w w') : Gt w' L ws := by
  obtain ⟨v, h1, h2⟩ := h
  exact ⟨v, h1.below hb h1.lt, own_below h2 rfl hb⟩
theorem Gt.lt {w : World} {L : Nat} {ws : List UInt32} (h : Gt w L ws) : L < w.heap.size := by
  obtain ⟨v, h1, h2⟩ := h
  exact h1.lt
theorem Gt.new (w : World) : Gt (w.alloc (.cells #[.slice none 0 0] 46)) w.heap.size [] := ⟨_, Blk.new w _ _, World.ownsRow_nil _ _ _ _⟩

/-- Appending a slice that came in, and what is kept besides. -/
theorem wpList_append_slk {P : Program} {ops : Array Oper} {rest : List Oper} {o : Oper} {a : Act} {Q : Exit → Act → World → Prop} {w : World}
    (hgd : o.guard = none) (s x : Operand) (t : TypeId) (ho : o.op = .call { callee := .builtin .append, args := #[s, x], argTypes := #[t, t] })
    (B : Nat) (E : TypeId) (z : Value) (bytes : Nat) (ht : P.underlying t = some (.slice E)) (hinfo : (P.info? E).map (fun i => (i.zero, i.size, i.bytes)) = some (some z, 1, bytes))
    (hzs : z.cells.size = 1) (v : Value) (n : Nat) (xs : List Value) (hs : a.eval s = v) (hown : w.ownsRow B E 1 v n xs)
    (A : Option Addr) (m c : Nat) (ys : List Value) (hx : a.eval x = .slice A m c) (hS : Sl w w.heap.size A m ys) (h1 : ∀ u ∈ ys, u.oneCell' = true)
    (hbytes : (n + m) * bytes ≤ 140737488355328) (h63 : n + m ≤ 140737488355328) (hB : B ≤ w.heap.size)
    (h : ∀ v' w', w'.ownsRow B E 1 v' (n + m) (xs ++ ys) → Below B w w' → (∀ k, k < w.heap.size → some k ≠ v.ownBlock → w'.heap[k]? = w.heap[k]?) → wpList P ops Q rest (a.put o.dst v') w') : wpList P ops Q (o :: rest) a w := by
  refine wpList_plain hgd fun K hK => ?_
  obtain ⟨i0, hi, hz0, hz1, hz2⟩ := info_parts hinfo
  by_cases hm : m = 0
  · subst hm
    have hys : ys = [] := List.eq_nil_of_length_eq_zero hS.1
    subst hys
    have hv : ∃ b sl sc, v = .slice b sl sc ∧ sl ≤ sc := by
      rcases hown.2 with ⟨rfl, _⟩ | ⟨g, cap, cur, rfl, _, _, hc, _⟩
      · exact ⟨none, 0, 0, rfl, Nat.le_refl _⟩
      · exact ⟨_, _, _, rfl, hc⟩
    obtain ⟨b, sl, sc, rfl, hle⟩ := hv
    have hsrc : Src P i0.size t (.slice A 0 c) 0 [] w := by
      refine ⟨.inl ⟨E, ht⟩, fun w' => ?_, ?_, ?_, by simp, by simp⟩
      · cases A <;> simp [Builtin.lenOf]
      · cases A <;> simp [Builtin.firstCells, loadCells, loadCellsFrom]
      · cases A <;> simp [Builtin.firstCells, loadCells, loadCellsFrom]
    have hr := run_append_nothing w t t o.type E i0 ht hi b sl sc hle (.slice A 0 c) hsrc
    unfold Oper.wp execOp
    simp only [ho, resolve, invoke, builtin, Sem.run_bind, Sem.run_pure, Result.andThen_ok, List.map_toArray, List.map_cons, List.map_nil, hs, hx, hr]
    refine hK _ _ (h _ w ?_ (Below.refl _ w) (fun _ _ _ => rfl))
    simpa using hown
  · obtain ⟨b, off, rfl, hb, hc⟩ := hS.2 (by omega)
    refine wp_append_own _ s x t ho B E i0 z 1 bytes ht hi hz0 hz1 hz2 hzs (by decide) v n xs hs hown ⟨b, off, none⟩ m c ys hx (by rw [hS.1]; omega) (fun j u hj => ?_) h1 (by unfold maxLen; omega) hbytes hB ?_
    · have := hc j u hj
      have e : (⟨b, off, none⟩ : Addr).add j = ⟨b, off + j, none⟩ := by unfold Addr.add; split <;> simp_all
      rw [e]; exact this
    · intro v' w' hown' hg _
      exact hK _ _ (h v' w' hown' ((Below.refl B w).grown hg hB (fun k hk => (hown.lt k hk).1)) (fun k hk hne => hg.block k hk hne))

set_option maxHeartbeats 1000000 in
theorem gather_any (L : Nat) (ws ys : List UInt32) (A : Option Addr) (c : Nat) (w : World) (h : Gt w L ws) (hS : Sl w w.heap.size A ys.length (ys.map wv)) (hn : ws.length + ys.length ≤ 1000000) :
    Calls Tryd.prog 24 #[.slice A ys.length c, .pointer (some ⟨L, 0, none⟩)] w fun e w' => e = .returned (.tuple #[]) ∧ Gt w' L (ws ++ ys) ∧ Below L w w' := by
  obtain ⟨v, hB, hown⟩ := h
  have hlt := hB.lt
  have hc : w.cell? ⟨L, 0, none⟩ = some v := hB.cell 0
  go_enter Tryd.func24, Tryd.ntmps24
  go_wp2_with ((at_builtin; refine wpList_append_slk rfl _ _ 46 rfl (L + 1) 22 (.int .u32 0) 4 Tryd.underlying46 info_u32 rfl v ws.length (ws.map wv) rfl hown A ys.length c (ys.map wv) rfl hS (wv_oneCell _) (by omega) (by omega) (by omega) ?_; intro v' w1 hown1 hb1 hk1; obtain ⟨A1, c1, rfl, _⟩ := Sl.of_own hown1; have hB1 := hB.keep hk1 hown (by decide); have hc1 := hB1.frozen 0; have hc2 : w1.cell? ⟨L, 0, none⟩ = some v := hB1.cell 0))
  go_end0
  rw [← List.map_append, ← List.length_append] at hown1
  exact ⟨rfl, ⟨_, hB1.set 0 _, by rw [← List.length_append]; exact ownsRow_setCell_below (a := ⟨L, 0, none⟩) hown1 (Nat.lt_succ_self _) _⟩, (hb1.mono (Nat.le_succ _)).setCell (p := ⟨L, 0, none⟩) (Nat.le_refl _) _⟩
end Go.Proofs.YtdkkomcokefkhaaDoor
namespace Go.Proofs.YtdkkomcokefkhaaDoor
open Go.RowKit

def wI (x : Int) : UInt32 := UInt32.ofNat x.toNat
def dgL (d : Nat → UInt32) : List UInt32 := [d 0, d 1, d 2, d 3]
/-- A recipe's words, up to its inputs' number; all its words; its bytes. -/
def headR (t : Int) (I : Nat → UInt32) (n : Nat) (f : Int) : List UInt32 := [wI t] ++ dgL I ++ [wI f, UInt32.ofNat n]
def wordsR (t : Int) (I : Nat → UInt32) (ps : List Int) (ds : List (Nat → UInt32)) (f : Int) : List UInt32 := headR t I ps.length f ++ ps.map wI ++ [UInt32.ofNat ds.length] ++ ds.flatMap dgL
def bytesR (t : Int) (I : Nat → UInt32) (ps : List Int) (ds : List (Nat → UInt32)) (f : Int) : List UInt8 := 82 :: leBytes (wordsR t I ps ds f)

theorem wI_wrap {x : Int} (h0 : 0 ≤ x) (h1 : x < 4294967296) : IntKind.u32.wrap x = (wI x).toNat := by
  unfold wI; rw [UInt32.toNat_ofNat', IntKind.wrap_u32']; omega
theorem wI_nat {n : Nat} (_h1 : n < 4294967296) : IntKind.u32.wrap (n : Int) = (UInt32.ofNat n).toNat := by
  rw [UInt32.toNat_ofNat', IntKind.wrap_u32']; omega
theorem wI_val {x : Int} (h0 : 0 ≤ x) (h1 : x < 4294967296) : ((wI x).toNat : Int) = x := by
  unfold wI; rw [UInt32.toNat_ofNat']; omega
theorem flat_len (ds : List (Nat → UInt32)) : (ds.flatMap dgL).length = 4 * ds.length := by
  induction ds with
  | nil => rfl
  | cons d ds ih => rw [List.flatMap_cons, List.length_append, ih, List.length_cons]; show 4 + _ = _; omega
theorem wordsR_len (t : Int) (I : Nat → UInt32) (ps : List Int) (ds : List (Nat → UInt32)) (f : Int) : (wordsR t I ps ds f).length = 8 + ps.length + 4 * ds.length := by
  have h4 : (dgL I).length = 4 := rfl
  unfold wordsR headR
  simp only [List.length_append, List.length_cons, List.length_nil, List.length_map]
  rw [flat_len, h4]
  omega
theorem flat_snoc (ds : List (Nat → UInt32)) (k : Nat) (h : k < ds.length) : (ds.take (k + 1)).flatMap dgL = (ds.take k).flatMap dgL ++ dgL ds[k] := by
  rw [List.take_succ_eq_append_getElem h, List.flatMap_append]; simp

/-- What a recipe that may be keeps within. -/
theorem rr_in {t f : Int} {I : Nat → UInt32} {ps : List Int} {m : Nat} (h : rightR t I ps m f = true) : (1 ≤ t ∧ t ≤ 6) ∧ (0 ≤ f ∧ f ≤ 100000000) ∧ ps.length ≤ 20 ∧ (∀ p ∈ ps, 1 ≤ p ∧ p ≤ 4) ∧ m ≤ 20 := by
  have h1 : 1 ≤ t ∧ t ≤ 6 := Decidable.byContradiction fun e => by rw [rr_tool e] at h; exact absurd h (by decide)
  have h2 : 0 ≤ f ∧ f ≤ 100000000 := Decidable.byContradiction fun e => by rw [rr_fuel e] at h; exact absurd h (by decide)
  have h3 : ps.length ≤ 20 := Decidable.byContradiction fun e => by rw [rr_len e] at h; exact absurd h (by decide)
  have h4 : ps.all passOk = true := by
    cases hh : ps.all passOk with
    | true => rfl
    | false => rw [rr_pass hh] at h; exact absurd h (by decide)
  have h5 : m ≤ 20 := Decidable.byContradiction fun e => by rw [rr_most e] at h; exact absurd h (by decide)
  exact ⟨h1, h2, h3, fun p hp => of_decide_eq_true (List.all_eq_true.1 h4 p hp), h5⟩

/-- A literal of words. -/
theorem sl_words {W : World} {E : TypeId} {cs : Array Value} {ys : List UInt32} {g : Nat} (hg : g = W.heap.size) (h : cs.toList = ys.map wv) : Sl (W.alloc (.cells cs E)) (W.alloc (.cells cs E)).heap.size (some ⟨g, 0, none⟩) ys.length (ys.map wv) := by
  subst hg
  refine ⟨by rw [List.length_map], fun _ => ⟨_, 0, rfl, by simp, fun i u hu => ?_⟩⟩
  rw [Nat.zero_add, World.cell?_alloc_mark]
  rw [← h] at hu
  simpa using hu
/-- A digest's four cells as a slice. -/
theorem sl_dig {W : World} {b off : Nat} {d : Nat → UInt32} (hb : b < W.heap.size) (h0 : W.cell? ⟨b, off, none⟩ = some (.int .u32 (d 0).toNat)) (h1 : W.cell? ⟨b, off + 1, none⟩ = some (.int .u32 (d 1).toNat)) (h2 : W.cell? ⟨b, off + 2, none⟩ = some (.int .u32 (d 2).toNat)) (h3 : W.cell? ⟨b, off + 3, none⟩ = some (.int .u32 (d 3).toNat)) : Sl W W.heap.size (some ⟨b, off, none⟩) (dgL d).length ((dgL d).map wv) := by
  refine ⟨rfl, fun _ => ⟨b, off, rfl, hb, fun i u hu => ?_⟩⟩
  match i, hu with
  | 0, hu => rw [← show some (wv (d 0)) = some u from hu]; exact h0
  | 1, hu => rw [← show some (wv (d 1)) = some u from hu]; exact h1
  | 2, hu => rw [← show some (wv (d 2)) = some u from hu]; exact h2
  | 3, hu => rw [← show some (wv (d 3)) = some u from hu]; exact h3
end Go.Proofs.YtdkkomcokefkhaaDoor
