/- How the arguments of the laws read: each kind of argument, opened into plain Lean data. -/
/- A cell that is known lies in a block that is there. -/
/- Appending a slice that came in, or one of the call's own, to a row of the call's own. No program in sight. -/
/- Layer 7, plain: operations, their names and shapes. No program in sight. -/
import Derived.ProofKit
import Derived.OpenShut
import Derived.ShutString
import Derived.ChangeOld
import Derived.Lib.SmallJoins
import Derived.Lib.LaidTab
import Derived.Deep.Upon
import Derived.Lib.ItoaMem
import Derived.Test.YthfdjfgmgoafnaaDoorLib
namespace Go.Proofs.YthfdjfgmgoafnaaDoor
open Go.ChangeShapes Go.WideShapes Go.ChangeAt Go.RowKit
open Go.ChangeMaps (open_string shut_string)

section
variable {H : Type} {enc : TypeId × Value → H} {P : Program} {w : World} {r : Reach} {b0 : Nat} {t : TypeId} {v : Value} {d : DataW H} {ps : List MemPlace} {base : Nat} {spare : Nat → Bool} {held : Bool}

theorem u32_of_wf {n : Int} (h : (Lit.int .u32 n).wf = true) : ∃ x : UInt32, n = x.toNat := by
  have hb := bounds_u32 h
  refine ⟨UInt32.ofNat n.toNat, ?_⟩
  rw [UInt32.toNat_ofNat']
  omega
theorem u8_of_wf {n : Int} (h : (Lit.int .u8 n).wf = true) : ∃ x : UInt8, n = x.toNat := by
  have hb := bounds_u8 h
  refine ⟨UInt8.ofNat n.toNat, ?_⟩
  rw [UInt8.toNat_ofNat']
  omega
theorem rd_u32 (ht : P.underlying t = some (.int .u32)) (hv : Value.okWide P w r b0 t v) (h : DataW.Trod enc P w base spare held t v d ps) : ∃ x : UInt32, v = .int .u32 x.toNat := by
  obtain ⟨n, rfl, _, _, hw⟩ := open_int ht hv h
  obtain ⟨x, rfl⟩ := u32_of_wf hw
  exact ⟨x, rfl⟩
theorem rd_u8 (ht : P.underlying t = some (.int .u8)) (hv : Value.okWide P w r b0 t v) (h : DataW.Trod enc P w base spare held t v d ps) : ∃ x : UInt8, v = .int .u8 x.toNat := by
  obtain ⟨n, rfl, _, _, hw⟩ := open_int ht hv h
  obtain ⟨x, rfl⟩ := u8_of_wf hw
  exact ⟨x, rfl⟩
def Is64 (x : Int) : Prop := -9223372036854775808 ≤ x ∧ x ≤ 9223372036854775807
theorem rd_int (ht : P.underlying t = some (.int .i64)) (hv : Value.okWide P w r b0 t v) (h : DataW.Trod enc P w base spare held t v d ps) : ∃ x : Int, v = .int .i64 x ∧ Is64 x := by
  obtain ⟨n, rfl, _, _, hw⟩ := open_int ht hv h
  exact ⟨n, rfl, bounds_i64 hw⟩
theorem rd_str (ht : P.underlying t = some .string) (hv : Value.okWide P w r b0 t v) (h : DataW.Trod enc P w base spare held t v d ps) : ∃ s : ByteArray, v = .string s ∧ s.size ≤ maxLen := by
  obtain ⟨n, rfl, _, _, hw⟩ := open_string ht hv h
  exact ⟨n, rfl, hw⟩
theorem words_of_wf (zs : List Int) (h : ∀ n ∈ zs, (Lit.int .u32 n).wf = true) : ∃ xs : List UInt32, zs = xs.map fun x => (x.toNat : Int) := by
  induction zs with
  | nil => exact ⟨[], rfl⟩
  | cons n zs ih =>
    obtain ⟨xs, hx⟩ := ih (fun m hm => h m (List.mem_cons_of_mem _ hm))
    obtain ⟨x, hx1⟩ := u32_of_wf (h n (List.mem_cons_self ..))
    exact ⟨x :: xs, by rw [List.map_cons, ← hx, ← hx1]⟩

/-- A slice of words, opened. -/
theorem rdf_words {e : TypeId} {fuel : Nat} {x : DataW H × List MemPlace} (ht : P.underlying t = some (.slice e)) (he : P.underlying e = some (.int .u32)) (hc : P.cellsOf e = 1)
    (h : DataW.trod enc P w base spare held fuel t [v] = some x) {B : Nat} (hlt : ∀ p ∈ x.2, p.block < B) :
    ∃ (A : Option Addr) (c : Nat) (xs : List UInt32), v = .slice A xs.length c ∧ xs.length ≤ c ∧ c ≤ maxLen ∧ Sl w B A xs.length (xs.map wv) := by
  rcases open_ints ht he hc h with ⟨hcs, _⟩ | ⟨a, len, cap, zs, hcs, _, hl, hm, hz, hx, hcell, hwz⟩
  · simp at hcs
    subst hcs
    exact ⟨none, 0, [], rfl, Nat.le_refl _, by unfold maxLen; omega, Sl.nil⟩
  · simp at hcs
    subst hcs
    obtain ⟨ys, rfl⟩ := words_of_wf zs hwz
    have hlen : len ≤ ys.length := by
      rw [List.length_map] at hz
      split at hz <;> omega
    have htl : (ys.take len).length = len := by rw [List.length_take]; omega
    refine ⟨some a, cap, ys.take len, by rw [htl], by omega, hm, by rw [htl]; simp; omega, fun hn => ?_⟩
    rw [htl] at hn
    have h0 := hcell 0 (by rw [List.length_map]; omega)
    obtain ⟨b, off, spot⟩ := a
    have hspot : spot = none := by simpa [Addr.add] using World.cell?_spot h0
    subst hspot
    refine ⟨b, off, rfl, ?_, ?_⟩
    · refine hlt (.cell b off) ?_
      rw [hx]
      simp only [MemPlace.row]
      exact List.mem_map.2 ⟨0, List.mem_range.2 (by rw [List.length_map]; omega), by simp⟩
    · intro i u hu
      have hi : i < len := by
        have := (List.getElem?_eq_some_iff.1 hu).1
        rw [List.length_map, htl] at this
        exact this
      have hci := hcell i (by rw [List.length_map]; omega)
      have e1 : (⟨b, off, none⟩ : Addr).add i = ⟨b, off + i, none⟩ := by unfold Addr.add; split <;> simp_all
      rw [e1] at hci
      rw [hci, ← hu]
      simp [hi, show i < ys.length by omega, wv]
theorem rd_words {e : TypeId} (ht : P.underlying t = some (.slice e)) (he : P.underlying e = some (.int .u32)) (hc : P.cellsOf e = 1) (hv : Value.okWide P w r b0 t v)
    (h : DataW.Trod enc P w base spare held t v d ps) {B : Nat} (hlt : ∀ p ∈ ps, p.block < B) :
    ∃ (A : Option Addr) (c : Nat) (xs : List UInt32), v = .slice A xs.length c ∧ xs.length ≤ c ∧ c ≤ maxLen ∧ Sl w B A xs.length (xs.map wv) := by
  obtain ⟨A, l, c, rfl⟩ := okWide_slice ht hv
  obtain ⟨fuel, hf⟩ := h
  exact rdf_words ht he hc hf hlt
end
end Go.Proofs.YthfdjfgmgoafnaaDoor
namespace Go.Proofs.YthfdjfgmgoafnaaDoor
theorem cell_lt {w : World} {a : Addr} {v : Value} (h : w.cell? a = some v) : a.block < w.heap.size := by
  unfold World.cell? at h
  cases hh : w.heap[a.block]? with
  | none => rw [hh] at h; simp at h
  | some o => exact (Array.getElem?_eq_some_iff.1 hh).1
end Go.Proofs.YthfdjfgmgoafnaaDoor
namespace Go.Proofs.YthfdjfgmgoafnaaDoor
open Go.RowKit

theorem step_append_sl {P : Program} {ops : Array Oper} {o : Oper} {a : Act} {K : Act → World → Prop} {Q : Exit → Act → World → Prop} {X : Prop} {w : World}
    (hgd : o.guard = none) (s x : Operand) (t : TypeId) (ho : o.op = .call { callee := .builtin .append, args := #[s, x], argTypes := #[t, t] })
    (B : Nat) (E : TypeId) (z : Value) (bytes : Nat) (ht : P.underlying t = some (.slice E)) (hinfo : (P.info? E).map (fun i => (i.zero, i.size, i.bytes)) = some (some z, 1, bytes))
    (hzs : z.cells.size = 1) (v : Value) (n : Nat) (xs : List Value) (hs : a.eval s = v) (hown : w.ownsRow B E 1 v n xs)
    (A : Option Addr) (m c : Nat) (ys : List Value) (hx : a.eval x = .slice A m c) (hS : Sl w w.heap.size A m ys) (h1 : ∀ u ∈ ys, u.oneCell' = true)
    (hbytes : (n + m) * bytes ≤ 140737488355328) (h63 : n + m ≤ 140737488355328) (hB : B ≤ w.heap.size)
    (h : ∀ v' w', w'.ownsRow B E 1 v' (n + m) (xs ++ ys) → Below B w w' → K (a.put o.dst v') w') :
    if Region.wanted o (yielded ops a.tmps) = true then Oper.wp P o a w K Q else X := by
  obtain ⟨i0, hi, hz0, hz1, hz2⟩ := info_parts hinfo
  rw [if_pos (by simp [Region.wanted, hgd])]
  by_cases hm : m = 0
  · subst hm
    have hys : ys = [] := List.eq_nil_of_length_eq_zero hS.1
    subst hys
    have hv : ∃ b sl sc, v = .slice b sl sc ∧ sl ≤ sc := by
      rcases hown.2 with ⟨rfl, _⟩ | ⟨g, cap, cur, rfl, _, _, hc, _⟩
      · exact ⟨none, 0, 0, rfl, Nat.le_refl _⟩
      · exact ⟨_, _, _, rfl, hc⟩
    obtain ⟨b, sl, sc, rfl, hle⟩ := hv
    have hsrc : Src P i0.size t (.slice A 0 c) 0 [] w := by
      refine ⟨.inl ⟨E, ht⟩, fun w' => ?_, ?_, ?_, by simp, by simp⟩
      · cases A <;> simp [Builtin.lenOf]
      · cases A <;> simp [Builtin.firstCells, loadCells, loadCellsFrom]
      · cases A <;> simp [Builtin.firstCells, loadCells, loadCellsFrom]
    have hr := run_append_nothing w t t o.type E i0 ht hi b sl sc hle (.slice A 0 c) hsrc
    unfold Oper.wp execOp
    simp only [ho, resolve, invoke, builtin, Sem.run_bind, Sem.run_pure, Result.andThen_ok, List.map_toArray, List.map_cons, List.map_nil, hs, hx, hr]
    refine h _ w ?_ (Below.refl _ w)
    simpa using hown
  · obtain ⟨b, off, rfl, hb, hc⟩ := hS.2 (by omega)
    refine wp_append_own _ s x t ho B E i0 z 1 bytes ht hi hz0 hz1 hz2 hzs (by decide) v n xs hs hown ⟨b, off, none⟩ m c ys hx (by rw [hS.1]; omega) (fun j u hj => ?_) h1 (by unfold maxLen; omega) hbytes hB ?_
    · have := hc j u hj
      have e : (⟨b, off, none⟩ : Addr).add j = ⟨b, off + j, none⟩ := by unfold Addr.add; split <;> simp_all
      rw [e]; exact this
    · intro v' w' hown' hg _
      exact h v' w' hown' ((Below.refl B w).grown hg hB (fun k hk => (hown.lt k hk).1))
theorem wpList_append_sl {P : Program} {ops : Array Oper} {rest : List Oper} {o : Oper} {a : Act} {Q : Exit → Act → World → Prop} {w : World}
    (hgd : o.guard = none) (s x : Operand) (t : TypeId) (ho : o.op = .call { callee := .builtin .append, args := #[s, x], argTypes := #[t, t] })
    (B : Nat) (E : TypeId) (z : Value) (bytes : Nat) (ht : P.underlying t = some (.slice E)) (hinfo : (P.info? E).map (fun i => (i.zero, i.size, i.bytes)) = some (some z, 1, bytes))
    (hzs : z.cells.size = 1) (v : Value) (n : Nat) (xs : List Value) (hs : a.eval s = v) (hown : w.ownsRow B E 1 v n xs)
    (A : Option Addr) (m c : Nat) (ys : List Value) (hx : a.eval x = .slice A m c) (hS : Sl w w.heap.size A m ys) (h1 : ∀ u ∈ ys, u.oneCell' = true)
    (hbytes : (n + m) * bytes ≤ 140737488355328) (h63 : n + m ≤ 140737488355328) (hB : B ≤ w.heap.size)
    (h : ∀ v' w', w'.ownsRow B E 1 v' (n + m) (xs ++ ys) → Below B w w' → wpList P ops Q rest (a.put o.dst v') w') : wpList P ops Q (o :: rest) a w := by
  refine wpList_plain hgd fun K hK => ?_
  have hst := step_append_sl (ops := ops) (K := K) (Q := Q) (X := True) hgd s x t ho B E z bytes ht hinfo hzs v n xs hs hown A m c ys hx hS h1 hbytes h63 hB (fun v' w' h1 h2 => hK _ _ (h v' w' h1 h2))
  rwa [if_pos (by simp [Region.wanted, hgd])] at hst
/-- A literal of one element, made by the call. -/
theorem own_lit1 (W : World) (E : TypeId) (B : Nat) (hB : B ≤ W.heap.size) (v0 : Value) : (W.alloc (.cells #[v0] E)).ownsRow B E 1 (.slice (some ⟨W.heap.size, 0, none⟩) 1 1) 1 [v0] :=
  ⟨rfl, .inr ⟨W.heap.size, 1, #[v0], rfl, hB, heap_alloc_new W _, Nat.le_refl _, by unfold maxLen; omega, rfl, rfl⟩⟩
end Go.Proofs.YthfdjfgmgoafnaaDoor
namespace Go.Proofs.YthfdjfgmgoafnaaDoor
open Go.RowKit

/-- The names of the operations 1 to 27. -/
def nmT : List (List UInt8) := [[108, 105], [108, 117, 105], [109, 111, 118], [97, 100, 100], [115, 117, 98], [109, 117, 108], [100, 105, 118], [109, 111, 100], [97, 110, 100], [111, 114], [120, 111, 114], [115, 104, 108], [115, 104, 114], [108, 116], [101, 113], [108, 100], [115, 116], [106, 109, 112], [106, 122], [106, 110, 122], [99, 97, 108, 108], [114, 101, 116], [103, 101, 116], [112, 117, 116], [99, 104, 107], [104, 97, 108, 116], [108, 100, 99]]
/-- Whether they have A, and B, and what their C is (0: none, 1: a number, 2: a register). -/
def aT : List Bool := [true, true, true, true, true, true, true, true, true, true, true, true, true, true, true, true, true, false, true, true, true, true, true, true, true, false, true]
def bT : List Bool := [false, false, true, true, true, true, true, true, true, true, true, true, true, true, true, true, true, false, false, false, false, false, false, false, false, false, true]
def cT : List Nat := [1, 1, 0, 2, 2, 2, 2, 2, 2, 2, 2, 2, 2, 2, 2, 1, 1, 1, 1, 1, 1, 0, 0, 0, 1, 0, 1]
def isOp (op : Int) : Prop := 1 ≤ op ∧ op ≤ 27
instance (op : Int) : Decidable (isOp op) := by unfold isOp; infer_instance
def nameI (op : Int) : List UInt8 := if isOp op then nmT.getD (op.toNat - 1) [] else []
def shA (op : Int) : Bool := if isOp op then aT.getD (op.toNat - 1) false else false
def shB (op : Int) : Bool := if isOp op then bT.getD (op.toNat - 1) false else false
def shC (op : Int) : Int := if isOp op then (cT.getD (op.toNat - 1) 0 : Nat) else 0
theorem op_cases (op : Int) (h : isOp op) : ∃ k : Nat, 1 ≤ k ∧ k ≤ 27 ∧ op = k := ⟨op.toNat, by unfold isOp at h; omega, by unfold isOp at h; omega, by unfold isOp at h; omega⟩
theorem isOp_nat (k : Nat) : isOp (k : Int) ↔ 1 ≤ k ∧ k ≤ 27 := by unfold isOp; omega
theorem name_ne : ∀ k, k < 28 → 1 ≤ k → nameI ((k : Nat) : Int) ≠ [] := by decide
theorem name_apart : ∀ k, k < 28 → 1 ≤ k → ∀ j, j < 28 → 1 ≤ j → nameI ((k : Nat) : Int) = nameI ((j : Nat) : Int) → k = j := by decide +kernel
theorem name_known (op : Int) : nameI op ≠ [] ↔ isOp op := by
  constructor
  · intro h
    unfold nameI at h
    by_cases ho : isOp op
    · exact ho
    · rw [if_neg ho] at h; exact absurd rfl h
  · intro h
    obtain ⟨k, h1, h2, rfl⟩ := op_cases op h
    exact name_ne k (by omega) h1
theorem shC_cases (op : Int) : shC op = 0 ∨ shC op = 1 ∨ shC op = 2 := by
  have h : ∀ k, k < 28 → cT.getD (k - 1) 0 = 0 ∨ cT.getD (k - 1) 0 = 1 ∨ cT.getD (k - 1) 0 = 2 := by decide
  unfold shC
  by_cases ho : isOp op
  · rw [if_pos ho]
    obtain ⟨k, h1, h2, rfl⟩ := op_cases op ho
    rw [Int.toNat_natCast]
    have := h k (by omega)
    omega
  · rw [if_neg ho]; exact .inl rfl
def withinI (v most : Int) (named : Bool) : Bool := if named then decide (0 ≤ v ∧ v ≤ most) else decide (v = 0)
/-- May an instruction be? -/
def rightI (op a b c : Int) : Bool := decide (isOp op) && (withinI a 15 (shA op) && (withinI b 15 (shB op) && withinI c (if shC op = 2 then 15 else 65535) (decide (shC op ≠ 0))))
def encI (op a b c : Int) : Int := op * 16777216 + a * 1048576 + b * 65536 + c
theorem right_bounds {op a b c : Int} (h : rightI op a b c = true) : isOp op ∧ (0 ≤ a ∧ a ≤ 15) ∧ (0 ≤ b ∧ b ≤ 15) ∧ (0 ≤ c ∧ c ≤ 65535) := by
  unfold rightI withinI at h
  simp only [Bool.and_eq_true, decide_eq_true_iff] at h
  obtain ⟨h0, h1, h2, h3⟩ := h
  refine ⟨h0, ?_, ?_, ?_⟩
  · split at h1 <;> simp at h1 <;> omega
  · split at h2 <;> simp at h2 <;> omega
  · split at h3 <;> simp at h3
    · split at h3 <;> omega
    · omega
/-- The operation of a name; 0: there is none. -/
def opI (l : List UInt8) : Int := match (List.range 27).find? (fun k => decide (nameI ((k + 1 : Nat) : Int) = l)) with
  | some k => ((k + 1 : Nat) : Int)
  | none => 0
theorem opI_hit {l : List UInt8} (k : Nat) (h1 : 1 ≤ k) (h2 : k ≤ 27) (h : nameI (k : Int) = l) : opI l = k := by
  unfold opI
  have hf : (List.range 27).find? (fun k => decide (nameI ((k + 1 : Nat) : Int) = l)) = some (k - 1) := by
    rw [List.find?_range_eq_some]
    refine ⟨?_, ?_, ?_⟩
    · rw [show k - 1 + 1 = k by omega]; exact decide_eq_true h
    · exact List.mem_range.2 (by omega)
    · intro j hj
      simp only [Bool.not_eq_true', decide_eq_false_iff_not]
      intro hj2
      have := name_apart k (by omega) h1 (j + 1) (by omega) (by omega) (h.trans hj2.symm)
      omega
  rw [hf]
  dsimp only
  omega
theorem opI_miss {l : List UInt8} (h : ∀ k : Nat, 1 ≤ k → k ≤ 27 → nameI (k : Int) ≠ l) : opI l = 0 := by
  unfold opI
  have hf : (List.range 27).find? (fun k => decide (nameI ((k + 1 : Nat) : Int) = l)) = none := by
    rw [List.find?_eq_none]
    intro k hk
    have := List.mem_range.1 hk
    simp only [decide_eq_true_iff]
    exact h (k + 1) (by omega) (by omega)
  rw [hf]
end Go.Proofs.YthfdjfgmgoafnaaDoor
