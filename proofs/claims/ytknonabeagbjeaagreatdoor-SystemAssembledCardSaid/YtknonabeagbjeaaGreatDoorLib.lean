/- General lemmas for the walks of this seat: rows of memory that a call makes (make, append), and texts. No program in sight. -/
import Derived.WalkKit
import Derived.Handy
import Derived.WalkSpells
import Derived.WalkLawsBesides
import Derived.Lib.Hide
import Derived.Deep.Light
import Derived.Deep.QuietTactic
import Derived.BigQuiet
import Derived.Deep.RegionLaw
import Derived.Deep.RegionHeld3
namespace Go.Proofs.YtknonabeagbjeaaGreatDoor
open Go.RowKit

/-- A byte, a word of 32 bits, an integer, as values. -/
def bv (x : UInt8) : Value := .int .u8 x.toNat
def wv (x : UInt32) : Value := .int .u32 x.toNat
def iv (x : Int) : Value := .int .i64 x

theorem bv_oneCell (l : List UInt8) : ∀ u ∈ l.map bv, u.oneCell' = true := by
  intro u hu; obtain ⟨_, _, rfl⟩ := List.mem_map.1 hu; rfl
theorem wv_oneCell (l : List UInt32) : ∀ u ∈ l.map wv, u.oneCell' = true := by
  intro u hu; obtain ⟨_, _, rfl⟩ := List.mem_map.1 hu; rfl

theorem cells_new (w : World) (cs : Array Value) (E : TypeId) : ∀ j u, cs.toList[j]? = some u → (w.alloc (.cells cs E)).cell? ((⟨w.heap.size, 0, none⟩ : Addr).add j) = some u := by
  intro j u hu
  have : (⟨w.heap.size, 0, none⟩ : Addr).add j = ⟨w.heap.size, j, none⟩ := by unfold Addr.add; split <;> simp_all
  rw [this, World.cell?_alloc_mark]
  simpa using hu

theorem grown_new {w w1 : World} {o : Obj} {B : Nat} {row : Option Nat} (hg : (w.alloc o).grownBy w1 row) (hB : B ≤ w.heap.size) (hr : ∀ k, row = some k → B ≤ k) : Below B w w1 :=
  ((Below.refl B w).alloc hB o).grown hg (by simp; omega) hr

/-- 'append(s, x1, .., xm)' onto a row of the call's own: what is appended lies in the block that was just laid. -/
theorem wpList_append_new {P : Program} {ops : Array Oper} {rest : List Oper} {o : Oper} {a : Act} {Q : Exit → Act → World → Prop} {w : World} {cs : Array Value} {E : TypeId}
    (hgd : o.guard = none) (s x : Operand) (t : TypeId) (ho : o.op = .call { callee := .builtin .append, args := #[s, x], argTypes := #[t, t] })
    (B : Nat) (z : Value) (size bytes : Nat) (ht : P.underlying t = some (.slice E)) (hinfo : (P.info? E).map (fun i => (i.zero, i.size, i.bytes)) = some (some z, size, bytes))
    (hzs : z.cells.size = size) (hsz : 0 < size) (v : Value) (n : Nat) (xs : List Value) (hs : a.eval s = v) (hown : w.ownsRow B E size v n xs) (m : Nat)
    (hx : a.eval x = .slice (some ⟨w.heap.size, 0, none⟩) m m) (hl : cs.toList.length = m * size) (h1 : ∀ u ∈ cs.toList, u.oneCell' = true)
    (hbytes : (n + m) * bytes ≤ 140737488355328) (h63 : n + m ≤ 140737488355328) (hB : B ≤ w.heap.size)
    (h : ∀ v' w', w'.ownsRow B E size v' (n + m) (xs ++ cs.toList) → Below B w w' → (∀ k, k < w.heap.size → some k ≠ v.ownBlock → w'.heap[k]? = w.heap[k]?) → wpList P ops Q rest (a.put o.dst v') w') :
    wpList P ops Q (o :: rest) a (w.alloc (.cells cs E)) := by
  obtain ⟨i0, hi, hz0, hz1, hz2⟩ := info_parts hinfo
  refine wpList_append_own _ hgd s x t ho B E i0 z size bytes ht hi hz0 hz1 hz2 hzs hsz v n xs hs (hown.alloc _) ⟨w.heap.size, 0, none⟩ m m cs.toList hx hl (cells_new w cs E) h1 (by unfold maxLen; omega) hbytes (by simp; omega) ?_
  intro v' w' hown' hg _
  refine h v' w' hown' (grown_new hg hB (fun k hk => (hown.lt k hk).1)) (fun k hk hne => ?_)
  rw [hg.block k (by simp; omega) hne]
  exact Below.heap_alloc w _ k hk

/-- The same as one step of a region that draws its order. -/
theorem step_append_new {P : Program} {ops : Array Oper} {o : Oper} {a : Act} {K : Act → World → Prop} {Q : Exit → Act → World → Prop} {X : Prop} {W w : World} {cs : Array Value} {E : TypeId} (hW : W = w.alloc (.cells cs E))
    (hgd : o.guard = none) (s x : Operand) (t : TypeId) (ho : o.op = .call { callee := .builtin .append, args := #[s, x], argTypes := #[t, t] })
    (B : Nat) (z : Value) (size bytes : Nat) (ht : P.underlying t = some (.slice E)) (hinfo : (P.info? E).map (fun i => (i.zero, i.size, i.bytes)) = some (some z, size, bytes))
    (hzs : z.cells.size = size) (hsz : 0 < size) (v : Value) (n : Nat) (xs : List Value) (hs : a.eval s = v) (hown : w.ownsRow B E size v n xs) (m : Nat)
    (hx : a.eval x = .slice (some ⟨w.heap.size, 0, none⟩) m m) (hl : cs.toList.length = m * size) (h1 : ∀ u ∈ cs.toList, u.oneCell' = true)
    (hbytes : (n + m) * bytes ≤ 140737488355328) (h63 : n + m ≤ 140737488355328) (hB : B ≤ w.heap.size) (hm : 0 < m)
    (h : ∀ g c w', w'.ownsRow B E size (.slice (some ⟨g, 0, none⟩) (n + m) c) (n + m) (xs ++ cs.toList) → Below B w w' → (∀ k, k < w.heap.size → some k ≠ v.ownBlock → w'.heap[k]? = w.heap[k]?) → K (a.put o.dst (.slice (some ⟨g, 0, none⟩) (n + m) c)) w') :
    if Region.wanted o (yielded ops a.tmps) = true then Oper.wp P o a W K Q else X := by
  subst hW
  obtain ⟨i0, hi, hz0, hz1, hz2⟩ := info_parts hinfo
  rw [if_pos (by simp [Region.wanted, hgd])]
  refine wp_append_own _ s x t ho B E i0 z size bytes ht hi hz0 hz1 hz2 hzs hsz v n xs hs (hown.alloc _) ⟨w.heap.size, 0, none⟩ m m cs.toList hx hl (cells_new w cs E) h1 (by unfold maxLen; omega) hbytes (by simp; omega) ?_
  intro v' w' hown' hg _
  rcases hown'.2 with ⟨_, h0⟩ | ⟨g, cap, cur, rfl, _⟩
  · omega
  refine h g cap w' hown' (grown_new hg hB (fun k hk => (hown.lt k hk).1)) (fun k hk hne => ?_)
  rw [hg.block k (by simp; omega) hne]
  exact Below.heap_alloc w _ k hk

/-- A call of a Go function, as 'go_region_law' leaves it. -/
theorem step_call {P : Program} {ops : Array Oper} {o : Oper} {a : Act} {K : Act → World → Prop} {Q : Exit → Act → World → Prop} {X : Prop} {W : World} (hgd : o.guard = none)
    (f : FuncId) (args : Array Value) (R : Ending → World → Prop) (hr : (execOp a.eval o).run P W = .ok (.enter f args) W) (hc : Calls P f args W R)
    (h : ∀ e w', R e w' → ∃ v, e = .returned v ∧ K (a.put o.dst v) w') :
    if Region.wanted o (yielded ops a.tmps) = true then Oper.wp P o a W K Q else X := by
  rw [if_pos (by simp [Region.wanted, hgd])]
  unfold Oper.wp
  rw [hr, Oper.upon_enter]
  refine hc.mono ?_
  intro e w' hR
  obtain ⟨v, rfl, hk⟩ := h e w' hR
  exact hk

/-- 'make([]T, 0, n)'. -/
theorem wpList_make_row {P : Program} (w : World) {ops : Array Oper} {rest : List Oper} {o : Oper} {a : Act} {Q : Exit → Act → World → Prop}
    (hg : o.guard = none) (l c : Operand) (t : TypeId) (hop : o.op = Op.makeSlice t l c)
    (B : Nat) (E : TypeId) (z : Value) (size bytes : Nat) (h1 : P.underlying t = some (.slice E)) (hinfo : (P.info? E).map (fun i => (i.zero, i.size, i.bytes)) = some (some z, size, bytes))
    (kl kc : IntKind) (C : Int) (n : Nat) (hl : a.eval l = .int kl 0) (hc : a.eval c = .int kc C) (hC : C = (n : Int)) (b2 : bytes * n ≤ 281474976710656) (b3 : n ≤ 281474976710656) (b4 : B ≤ w.heap.size)
    (hK : ∀ v w', w'.ownsRow B E size v 0 [] → Below B w w' → w.grownBy w' none → v.ownBlock = some w.heap.size → wpList P ops Q rest (a.put o.dst v) w') :
    wpList P ops Q (o :: rest) a w := by
  obtain ⟨i0, hi, hz0, hz1, hz2⟩ := info_parts hinfo
  refine wpList_make_own w hg l c t hop B E i0 z size h1 hi hz0 hz1 kl kc C n hl hc hC (by rw [hz2]; exact b2) (by unfold maxLen; omega) b4 ?_
  intro w' hown hgrow
  exact hK _ _ hown ((Below.refl B w).grown hgrow b4 (fun k hk => by cases hk)) hgrow rfl

/-- 'string(b)', b a row of bytes of the call's own. -/
theorem run_string_row {P : Program} {w : World} {B E : Nat} {v : Value} {n : Nat} (l : List UInt8) (src dst : TypeId) (hs : P.underlying src = some (.slice E)) (he : P.underlying E = some (.int .u8)) (hd : P.underlying dst = some .string)
    (hown : w.ownsRow B E 1 v n (l.map bv)) : (convert src dst v).run P w = .ok (.string ⟨l.toArray⟩) w := by
  have hn : l.length = n := by have := hown.1; simpa using this
  subst hn
  rcases hown.2 with ⟨rfl, h0⟩ | ⟨g, cap, cur, rfl, _⟩
  · obtain rfl : l = [] := List.eq_nil_of_length_eq_zero h0
    exact run_convert_bytes_nil w src E hs he 0 0 dst hd
  · have hcells := hown.cells (g := g) rfl
    exact run_convert_bytes_back w src dst E ⟨g, 0, none⟩ cap l hs he hd (fun j hj => hcells j _ (by simp [List.getElem?_map, List.getElem?_eq_getElem hj, bv]))

theorem string_row {P : Program} {w : World} {B E : Nat} {v : Value} {n : Nat} (l : List UInt8) (src dst : TypeId) (hs : P.underlying src = some (.slice E)) (he : P.underlying E = some (.int .u8)) (hd : P.underlying dst = some .string)
    (hown : w.ownsRow B E 1 v n (l.map bv)) : ∃ s : ByteArray, (convert src dst v).run P w = .ok (.string s) w ∧ Hid (s.data.toList = l) :=
  ⟨_, run_string_row l src dst hs he hd hown, rfl⟩

theorem own_below {w w' : World} {B E sz n : Nat} {v : Value} {xs : List Value} (h : w.ownsRow B E sz v n xs) {B' : Nat} (hB : B' = w.heap.size) (hb : Below B' w w') : w'.ownsRow B E sz v n xs := by
  subst hB
  refine ⟨h.1, ?_⟩
  rcases h.2 with h2 | ⟨g, cap, cur, hv, hg, hh, r⟩
  · exact .inl h2
  · exact .inr ⟨g, cap, cur, hv, hg, (hb.block g (Array.getElem?_eq_some_iff.1 hh).1).trans hh, r⟩
theorem own_form {w : World} {B E sz n : Nat} {v : Value} {xs : List Value} (h : w.ownsRow B E sz v n xs) (hn : 0 < n) : ∃ g c, v = .slice (some ⟨g, 0, none⟩) n c ∧ B ≤ g ∧ g < w.heap.size ∧ n ≤ c := by
  rcases h.2 with ⟨_, h2⟩ | ⟨g, cap, cur, hv, hg, hh, r, _⟩
  · omega
  · exact ⟨g, cap, hv, hg, (Array.getElem?_eq_some_iff.1 hh).1, r⟩
section
variable {w : World} {B E g n c : Nat} {xs : List Value}
theorem own_cell (h : w.ownsRow B E 1 (.slice (some ⟨g, 0, none⟩) n c) n xs) {k : Nat} {u : Value} (hu : xs[k]? = some u) : w.cell? ⟨g, k, none⟩ = some u := by
  have := h.cells (g := g) rfl k u hu
  have e : (⟨g, 0, none⟩ : Addr).add k = ⟨g, k, none⟩ := by unfold Addr.add; split <;> simp_all
  rwa [e] at this
theorem own_frozen (h : w.ownsRow B E 1 (.slice (some ⟨g, 0, none⟩) n c) n xs) (k : Nat) : w.frozen? ⟨g, k, none⟩ = false := by
  rcases h.2 with ⟨h0, _⟩ | ⟨g', cap, cur, hv, hg, hh, _⟩
  · cases h0
  · injection hv with hv _ _
    injection hv with hv
    injection hv with hv
    subst hv
    simp [World.frozen?, hh]
theorem own_set (h : w.ownsRow B E 1 (.slice (some ⟨g, 0, none⟩) n c) n xs) {k : Nat} (_hk : k < n) (u : Value) : (w.setCell ⟨g, k, none⟩ u).ownsRow B E 1 (.slice (some ⟨g, 0, none⟩) n c) n (xs.set k u) := by
  have hl : xs.length = n := by have := h.1; omega
  refine ⟨by simp [hl], ?_⟩
  rcases h.2 with ⟨h0, _⟩ | ⟨g', cap, cur, hv, hg, hh, hnc, hcm, hcs, ht⟩
  · cases h0
  · injection hv with hv _ hc
    injection hv with hv
    injection hv with hv
    subst hv hc
    refine .inr ⟨g, c, cur.setIfInBounds k u, rfl, hg, ?_, hnc, hcm, by simp [hcs], ?_⟩
    · simp [World.setCell, Array.getElem?_modify, hh]
    · rw [← ht, Array.toList_setIfInBounds, List.take_set]
end
theorem set_mapRange (n k : Nat) (f : Nat → Value) (u : Value) : ((List.range n).map f).set k u = (List.range n).map (fun i => if i = k then u else f i) := by
  apply List.ext_getElem
  · simp
  · intro i h1 h2
    simp only [List.length_set, List.length_map, List.length_range] at h1
    rw [List.getElem_set]
    simp only [List.getElem_map, List.getElem_range]
    by_cases h : k = i
    · subst h; simp
    · rw [if_neg h, if_neg (fun e => h e.symm)]
theorem get_mapRange (n k : Nat) (f : Nat → Value) (h : k < n) : ((List.range n).map f)[k]? = some (f k) := by simp [h]

/-- A slice that reads as a list: 'A' its address, if it has one. All of it lies below block B. -/
def Sl (w : World) (B : Nat) (A : Option Addr) (n : Nat) (xs : List Value) : Prop :=
  xs.length = n ∧ (0 < n → ∃ b off, A = some ⟨b, off, none⟩ ∧ b < B ∧ ∀ i u, xs[i]? = some u → w.cell? ⟨b, off + i, none⟩ = some u)

section
variable {w w' : World} {B B' n : Nat} {A : Option Addr} {xs : List Value}
theorem Sl.below (h : Sl w B A n xs) (hb : Below B w w') : Sl w' B A n xs :=
  ⟨h.1, fun hn => by
    obtain ⟨b, off, e, hlt, hc⟩ := h.2 hn
    exact ⟨b, off, e, hlt, fun i u hu => (hb.cell (p := ⟨b, off + i, none⟩) hlt).trans (hc i u hu)⟩⟩
theorem Sl.more (h : Sl w B A n xs) (hB : B ≤ B') : Sl w B' A n xs :=
  ⟨h.1, fun hn => by
    obtain ⟨b, off, e, hlt, hc⟩ := h.2 hn
    exact ⟨b, off, e, by omega, hc⟩⟩
theorem Sl.at_ (h : Sl w B A n xs) {k : Nat} (hk : k < n) : ∃ b off u, A = some ⟨b, off, none⟩ ∧ b < B ∧ xs[k]? = some u ∧ w.cell? ⟨b, off + k, none⟩ = some u := by
  obtain ⟨b, off, e, hlt, hc⟩ := h.2 (by omega)
  have hl : k < xs.length := by have := h.1; omega
  exact ⟨b, off, xs[k], e, hlt, List.getElem?_eq_getElem hl, hc k _ (List.getElem?_eq_getElem hl)⟩
theorem Sl.word {l : List UInt32} (h : Sl w B A n (l.map wv)) {k : Nat} (hk : k < l.length) : ∃ b off, A = some ⟨b, off, none⟩ ∧ b < B ∧ w.cell? ⟨b, off + k, none⟩ = some (.int .u32 l[k].toNat) := by
  have hl : l.length = n := by simpa using h.1
  obtain ⟨b, off, u, e, hlt, hu, hc⟩ := h.at_ (k := k) (by omega)
  simp [List.getElem?_map, List.getElem?_eq_getElem hk, wv] at hu
  subst hu
  exact ⟨b, off, e, hlt, hc⟩
theorem Sl.int {l : List Int} (h : Sl w B A n (l.map iv)) {k : Nat} (hk : k < l.length) : ∃ b off, A = some ⟨b, off, none⟩ ∧ b < B ∧ w.cell? ⟨b, off + k, none⟩ = some (.int .i64 l[k]) := by
  have hl : l.length = n := by simpa using h.1
  obtain ⟨b, off, u, e, hlt, hu, hc⟩ := h.at_ (k := k) (by omega)
  simp [List.getElem?_map, List.getElem?_eq_getElem hk, iv] at hu
  subst hu
  exact ⟨b, off, e, hlt, hc⟩
theorem Sl.byte {l : List UInt8} (h : Sl w B A n (l.map bv)) {k : Nat} (hk : k < l.length) : ∃ b off, A = some ⟨b, off, none⟩ ∧ b < B ∧ w.cell? ⟨b, off + k, none⟩ = some (.int .u8 l[k].toNat) := by
  have hl : l.length = n := by simpa using h.1
  obtain ⟨b, off, u, e, hlt, hu, hc⟩ := h.at_ (k := k) (by omega)
  simp [List.getElem?_map, List.getElem?_eq_getElem hk, bv] at hu
  subst hu
  exact ⟨b, off, e, hlt, hc⟩
theorem Sl.nil : Sl w B A 0 [] := ⟨rfl, fun h => absurd h (by omega)⟩
end

/-- What a row of the call's own is good for once it is handed on: a slice that reads as a list. -/
theorem Sl.of_own {w : World} {B E : Nat} {v : Value} {n : Nat} {xs : List Value} (h : w.ownsRow B E 1 v n xs) : ∃ A c, v = .slice A n c ∧ n ≤ c ∧ c ≤ maxLen ∧ Sl w w.heap.size A n xs := by
  have hl : xs.length = n := by have := h.1; omega
  rcases h.2 with ⟨rfl, rfl⟩ | ⟨g, cap, cur, rfl, hb, hg, h1, h2, _⟩
  · exact ⟨none, 0, rfl, Nat.le_refl _, by unfold maxLen; omega, hl, fun h => absurd h (by omega)⟩
  · refine ⟨_, _, rfl, h1, h2, hl, fun hn => ⟨g, 0, rfl, (h.lt g rfl).2, fun i u hu => ?_⟩⟩
    have := h.cells (g := g) rfl i u hu
    have e : (⟨g, 0, none⟩ : Addr).add i = ⟨g, 0 + i, none⟩ := by unfold Addr.add; split <;> simp_all
    rwa [e] at this

theorem Sl.get {w : World} {B n : Nat} {A : Option Addr} {f : Nat → Value} (h : Sl w B A n ((List.range n).map f)) {k : Nat} (hk : k < n) : ∃ b off, A = some ⟨b, off, none⟩ ∧ b < B ∧ w.cell? ⟨b, off + k, none⟩ = some (f k) := by
  obtain ⟨b, off, u, e, hlt, hu, hc⟩ := h.at_ hk
  rw [get_mapRange n k f hk] at hu
  injection hu with hu
  subst hu
  exact ⟨b, off, e, hlt, hc⟩
theorem ret_int {k : IntKind} {a b : Int} (h : a = b) : Ending.returned (.int k a) = .returned (.int k b) := by rw [h]
theorem ret_bool {a b : Bool} (h : a = b) : Ending.returned (.bool a) = .returned (.bool b) := by rw [h]
theorem ret_ints {k k' : IntKind} {a b a' b' : Int} (h : a = b) (h' : a' = b') : Ending.returned (.tuple #[.int k a, .int k' a']) = .returned (.tuple #[.int k b, .int k' b']) := by rw [h, h']

theorem two_cells {W : World} {b : Nat} {x0 x1 : Value} (y0 y1 : Value) (h0 : W.cell? ⟨b, 0, none⟩ = some x0) (h1 : W.cell? ⟨b, 1, none⟩ = some x1) :
    ((W.setCell ⟨b, 0, none⟩ y0).setCell ⟨b, 1, none⟩ y1).cell? ⟨b, 0, none⟩ = some y0 ∧ ((W.setCell ⟨b, 0, none⟩ y0).setCell ⟨b, 1, none⟩ y1).cell? ⟨b, 1, none⟩ = some y1 := by
  have e0 : (W.setCell ⟨b, 0, none⟩ y0).cell? ⟨b, 0, none⟩ = some y0 := World.cell?_setCell_same' _ _ _ (by rw [h0]; rfl)
  have e1 : (W.setCell ⟨b, 0, none⟩ y0).cell? ⟨b, 1, none⟩ = some x1 := (World.cell?_setCell_other _ _ _ _ (by simp)).trans h1
  exact ⟨(World.cell?_setCell_other _ _ _ _ (by simp)).trans e0, World.cell?_setCell_same' _ _ _ (by rw [e1]; rfl)⟩
theorem own_base {w : World} {B B' E sz n : Nat} {v : Value} {xs : List Value} (h : w.ownsRow B E sz v n xs) (hb : B' ≤ B) : w.ownsRow B' E sz v n xs := by
  refine ⟨h.1, ?_⟩
  rcases h.2 with hn | ⟨g, cap, cur, hv, hbg, rest⟩
  · exact .inl hn
  · exact .inr ⟨g, cap, cur, hv, Nat.le_trans hb hbg, rest⟩
/-- A block of cells that is known whole. -/
def Blk (w : World) (g : Nat) (t : TypeId) (cs : Array Value) : Prop := w.heap[g]? = some (.cells cs t (0, 0))
section
variable {w w' : World} {g : Nat} {t : TypeId} {cs : Array Value}
theorem Blk.lt (h : Blk w g t cs) : g < w.heap.size := (Array.getElem?_eq_some_iff.1 h).1
theorem Blk.cell (h : Blk w g t cs) (i : Nat) : w.cell? ⟨g, i, none⟩ = cs[i]? := by simp [World.cell?, show w.heap[g]? = _ from h]
theorem Blk.frozen (h : Blk w g t cs) (i : Nat) : w.frozen? ⟨g, i, none⟩ = false := by simp [World.frozen?, show w.heap[g]? = _ from h]
theorem Blk.new (w : World) (t : TypeId) (cs : Array Value) : Blk (w.alloc (.cells cs t)) w.heap.size t cs := heap_alloc_new w _
theorem Blk.drewN (h : Blk w g t cs) (n : Nat) : Blk (w.drewN n) g t cs := h
theorem Blk.drew (h : Blk w g t cs) : Blk w.drew g t cs := h
theorem Blk.alloc (h : Blk w g t cs) (o : Obj) : Blk (w.alloc o) g t cs := (Below.heap_alloc w o g h.lt).trans h
theorem Blk.set (h : Blk w g t cs) (i : Nat) (u : Value) : Blk (w.setCell ⟨g, i, none⟩ u) g t (cs.setIfInBounds i u) := by
  unfold Blk at h ⊢
  simp [World.setCell, Array.getElem?_modify, h]
theorem Blk.far (h : Blk w g t cs) {p : Addr} (hp : g ≠ p.block) (u : Value) : Blk (w.setCell p u) g t cs := (Below.heap_setCell w p u g hp).trans h
theorem Blk.below {B : Nat} (h : Blk w g t cs) (hb : Below B w w') (hg : g < B) : Blk w' g t cs := (hb.block g hg).trans h
theorem Blk.keep {v : Value} (h : Blk w g t cs) (hk : ∀ k, k < w.heap.size → some k ≠ v.ownBlock → w'.heap[k]? = w.heap[k]?) {B E sz n : Nat} {xs : List Value} (hown : w.ownsRow B E sz v n xs) (hne : t ≠ E) : Blk w' g t cs := by
  refine (hk g h.lt (fun e => ?_)).trans h
  rcases hown.2 with ⟨rfl, _⟩ | ⟨g', cap, cur, rfl, _, hh, _⟩
  · cases e
  · injection e with e
    subst e
    unfold Blk at h
    rw [hh] at h
    injection h with h
    injection h with _ h _
    exact hne h.symm
end
theorem ba_append (a b : ByteArray) : (a ++ b).data.toList = a.data.toList ++ b.data.toList := by simp [ByteArray.data_append]
theorem ba_eq {s : ByteArray} {l : List UInt8} (h : s.data.toList = l) : s = ⟨l.toArray⟩ := by
  cases s with | mk d => subst h; simp
theorem ba_inj {s t : ByteArray} (h : s.data.toList = t.data.toList) : s = t := by
  rw [ba_eq h]

theorem below_new {w w' : World} {o : Obj} (h : Below (w.alloc o).heap.size (w.alloc o) w') : Below w.heap.size w w' :=
  ((Below.refl _ w).alloc (Nat.le_refl _) o).trans (h.mono (by simp))

theorem take_map_snoc {α β : Type} (f : α → β) (xs : List α) (k : Nat) (h : k < xs.length) : (xs.take (k + 1)).map f = (xs.take k).map f ++ [f xs[k]] := by
  rw [List.take_succ_eq_append_getElem h, List.map_append]; rfl

end Go.Proofs.YtknonabeagbjeaaGreatDoor
