/- Layer 37: a recipe read; the program's answer, walked. -/
import Derived.Lib.Strings
import Derived.Deep.CutBlock
import Derived.Laws.EntriesVeiled
import Derived.Test.YtdkkomcokefkhaaDoorRcN
import Derived.Test.YtdkkomcokefkhaaDoorRcF
import Derived.Test.YtdkkomcokefkhaaDoorRefD
namespace Go.Proofs.YtdkkomcokefkhaaDoor
open Go.RowKit

/-- The zero recipe's cells. -/
def zrec : Array Value := #[.int .i64 0, .int .u32 0, .int .u32 0, .int .u32 0, .int .u32 0, .slice none 0 0, .slice none 0 0, .int .i64 0]
theorem Blk.all8 {W : World} {g : Nat} {ty : TypeId} {z0 z1 z2 z3 z4 z5 z6 z7 : Value} (h : Blk W g ty #[z0, z1, z2, z3, z4, z5, z6, z7]) :
    (W.cell? ⟨g, 0, none⟩ = some z0 ∧ W.cell? ⟨g, 1, none⟩ = some z1 ∧ W.cell? ⟨g, 2, none⟩ = some z2 ∧ W.cell? ⟨g, 3, none⟩ = some z3 ∧ W.cell? ⟨g, 4, none⟩ = some z4 ∧ W.cell? ⟨g, 5, none⟩ = some z5 ∧ W.cell? ⟨g, 6, none⟩ = some z6 ∧ W.cell? ⟨g, 7, none⟩ = some z7) ∧
    (W.frozen? ⟨g, 0, none⟩ = false ∧ W.frozen? ⟨g, 1, none⟩ = false ∧ W.frozen? ⟨g, 2, none⟩ = false ∧ W.frozen? ⟨g, 3, none⟩ = false ∧ W.frozen? ⟨g, 4, none⟩ = false ∧ W.frozen? ⟨g, 5, none⟩ = false ∧ W.frozen? ⟨g, 6, none⟩ = false ∧ W.frozen? ⟨g, 7, none⟩ = false) :=
  ⟨⟨h.cell 0, h.cell 1, h.cell 2, h.cell 3, h.cell 4, h.cell 5, h.cell 6, h.cell 7⟩, h.frozen 0, h.frozen 1, h.frozen 2, h.frozen 3, h.frozen 4, h.frozen 5, h.frozen 6, h.frozen 7⟩
theorem Blk.out8 {w W : World} {g : Nat} {ty : TypeId} {z0 z1 z2 z3 z4 z5 z6 z7 : Value} (h : Blk W g ty #[z0, z1, z2, z3, z4, z5, z6, z7]) (hb : Below w.heap.size w W) (hg : w.heap.size ≤ g) (v0 v1 v2 v3 v4 v5 v6 v7 : Value) :
    ∃ W8, W8 = (((((((W.setCell ⟨g, 0, none⟩ v0).setCell ⟨g, 1, none⟩ v1).setCell ⟨g, 2, none⟩ v2).setCell ⟨g, 3, none⟩ v3).setCell ⟨g, 4, none⟩ v4).setCell ⟨g, 5, none⟩ v5).setCell ⟨g, 6, none⟩ v6).setCell ⟨g, 7, none⟩ v7 ∧
      Blk W8 g ty #[v0, v1, v2, v3, v4, v5, v6, v7] ∧ Below w.heap.size w W8 ∧ ∀ k, k ≠ g → W8.heap[k]? = W.heap[k]? := by
  refine ⟨_, rfl, ?_, ?_, ?_⟩
  · have h8 := (((((((h.set 0 v0).set 1 v1).set 2 v2).set 3 v3).set 4 v4).set 5 v5).set 6 v6).set 7 v7
    simpa only [List.setIfInBounds_toArray, List.set_cons_zero, List.set_cons_succ] using h8
  · have s1 := hb.setCell (p := ⟨g, 0, none⟩) hg v0
    have s2 := s1.setCell (p := ⟨g, 1, none⟩) hg v1
    have s3 := s2.setCell (p := ⟨g, 2, none⟩) hg v2
    have s4 := s3.setCell (p := ⟨g, 3, none⟩) hg v3
    have s5 := s4.setCell (p := ⟨g, 4, none⟩) hg v4
    have s6 := s5.setCell (p := ⟨g, 5, none⟩) hg v5
    have s7 := s6.setCell (p := ⟨g, 6, none⟩) hg v6
    exact s7.setCell (p := ⟨g, 7, none⟩) hg v7
  · intro k hk
    have q := fun (W : World) (o : Nat) (v : Value) => Below.heap_setCell W ⟨g, o, none⟩ v k hk
    rw [q, q, q, q, q, q, q, q]

theorem recipe_Read_bad0 (s : ByteArray) (w : World) (h : s.size < 1 ∨ (1 ≤ s.size ∧ s.data.toList.take 1 ≠ [82])) (hm : s.size ≤ 1000000000) :
    Calls Tryd.prog 15 #[.string s] w fun e W' => e = .returned (.tuple #[.agg zrec, .int .i64 7]) ∧ Below w.heap.size w W' := by
  have hx : (s.extract 0 1).toList = s.data.toList.take 1 := by rw [Lib.extract_toList]; rfl
  rcases h with h | ⟨h1, h2⟩
  · have hlt : (s.size : Int) < 1 := by omega
    clear hx
    go_enter Tryd.func15, Tryd.ntmps15
    go_wp2_with fail
    refine bodyPost_ret (by simp [results, Tryd.results15, go_sem]; try rfl) rfl ?_
    exact ⟨rfl, (Below.refl _ w).alloc (Nat.le_refl _) _⟩
  · have hlt : ¬ (s.size : Int) < 1 := by omega
    rw [← hx] at h2
    have hb : (!(s.extract 0 1).toList == [82]) = true := by simpa using h2
    clear hx h2
    go_enter Tryd.func15, Tryd.ntmps15
    go_wp2_with fail
    refine bodyPost_ret (by simp [results, Tryd.results15, go_sem]; try rfl) rfl ?_
    exact ⟨rfl, (Below.refl _ w).alloc (Nat.le_refl _) _⟩
theorem recipe_Read_bad1 (s : ByteArray) (w : World) (h1 : 1 ≤ s.size) (h2 : s.data.toList.take 1 = [82]) (h4 : (s.size - 1) % 4 ≠ 0) (hm : s.size ≤ 1000000000) :
    Calls Tryd.prog 15 #[.string s] w fun e W' => e = .returned (.tuple #[.agg zrec, .int .i64 7]) ∧ Below w.heap.size w W' := by
  have hx : (s.extract 0 1).toList = s.data.toList.take 1 := by rw [Lib.extract_toList]; rfl
  have hlt : ¬ (s.size : Int) < 1 := by omega
  have h2' : (s.extract 0 1).toList = [82] := hx.trans h2
  have hes : (s.extract 1 s.size).size = s.size - 1 := by
    have h : (s.extract 1 s.size).data.toList.length = (s.extract 1 s.size).size := rfl
    rw [Lib.extract_data, List.length_take, List.length_drop] at h
    have hl : s.data.toList.length = s.size := rfl
    omega
  have HES := Lib.hid hes
  clear hx h2 hes
  go_enter Tryd.func15, Tryd.ntmps15
  go_wp2_with fail
  refine (word_Words_bad _ _ (by rw [HES.out]; omega) (by rw [HES.out]; exact h4)).mono ?_
  rintro e w1 ⟨rfl, rfl⟩
  go_wp2_with fail
  refine bodyPost_ret (by simp [results, Tryd.results15, go_sem]; try rfl) rfl ?_
  exact ⟨rfl, (Below.refl _ w).alloc (Nat.le_refl _) _⟩

/-- The state while a recipe is read. -/
structure Rs (w : World) (T : Nat) (t : Int) (I : Nat → UInt32) (p i : Value) (f : Int) (st : St32) (W : World) : Prop where
  z : Blk W w.heap.size 28 zrec
  tk : Tkr W T st
  fn : Fnc W (T + 1) T
  bx : Blk W (T + 1 + 1) 28 (recv t I p i f)
  bel : Below w.heap.size w W
  lt : w.heap.size < T
section
variable {w W W' : World} {T : Nat} {t f : Int} {I : Nat → UInt32} {p i : Value} {st st' : St32}
theorem Rs.call (h : Rs w T t I p i f st W) (hT : Tkr W' T st') (ho : Only T W W') : Rs w T t I p i f st' W' :=
  have h1 := h.lt
  ⟨h.z.only ho (by omega), hT, Blk.only h.fn ho (by omega), h.bx.only ho (by omega), h.bel.trans (ho.bel.mono (Nat.le_of_lt h1)), h.lt⟩
theorem Rs.above (h : Rs w T t I p i f st W) (hb : Below (T + 3) W W') : Rs w T t I p i f st W' :=
  have h1 := h.lt
  ⟨h.z.below hb (by omega), h.tk.below (hb.mono (by omega)), Blk.below h.fn hb (by omega), h.bx.below hb (by omega), h.bel.trans (hb.mono (by omega)), h.lt⟩
theorem Rs.top (h : Rs w T t I p i f st W) : T + 3 ≤ W.heap.size := h.bx.lt
theorem Rs.alloc (h : Rs w T t I p i f st W) (o : Obj) : Rs w T t I p i f st (W.alloc o) := h.above ((Below.refl _ W).alloc h.top o)
theorem Rs.drew (h : Rs w T t I p i f st W) : Rs w T t I p i f st W.drew := h.above (Below.refl _ W).drew
theorem Rs.setB (h : Rs w T t I p i f st W) (j : Nat) (v : Value) {t' f' : Int} {I' : Nat → UInt32} {p' i' : Value} (he : (recv t I p i f).setIfInBounds j v = recv t' I' p' i' f') : Rs w T t' I' p' i' f' st (W.setCell ⟨T + 1 + 1, j, none⟩ v) :=
  have h1 := h.lt
  have hb : Below (T + 1 + 1) W (W.setCell ⟨T + 1 + 1, j, none⟩ v) := (Below.refl _ W).setCell (p := ⟨T + 1 + 1, j, none⟩) (Nat.le_refl _) v
  ⟨h.z.below hb (by omega), h.tk.below (hb.mono (by omega)), Blk.below h.fn hb (by omega), he ▸ h.bx.set j v, h.bel.trans (hb.mono (by omega)), h.lt⟩
theorem Rs.new {w1 : World} {A : Option Addr} {c : Nat} {l : List UInt32} (hz : Blk w1 w.heap.size 28 zrec) (hb : Below w.heap.size w w1) (hS : Sl w1 w1.heap.size A l.length (l.map wv)) (h1 : l.length ≤ c) (h2 : c ≤ maxLen) :
    Rs w w1.heap.size 0 (fun _ => 0) (.slice none 0 0) (.slice none 0 0) 0 (l, false) (((w1.alloc (.cells #[.slice A l.length c, .bool false] 53)).alloc (.cells #[.func (.func 30) #[.pointer (some ⟨w1.heap.size, 0, none⟩)] #[]] 54)).alloc (.cells #[.int .i64 0, .int .u32 0, .int .u32 0, .int .u32 0, .int .u32 0, .slice none 0 0, .slice none 0 0, .int .i64 0] 28)) := by
  have z1 : (w1.alloc (.cells #[.slice A l.length c, .bool false] 53)).heap.size = w1.heap.size + 1 := by simp
  have z2 : ((w1.alloc (.cells #[.slice A l.length c, .bool false] 53)).alloc (.cells #[.func (.func 30) #[.pointer (some ⟨w1.heap.size, 0, none⟩)] #[]] 54)).heap.size = w1.heap.size + 1 + 1 := by simp
  have hl := hz.lt
  refine ⟨((hz.alloc _).alloc _).alloc _, ?_, ?_, ?_, ((hb.alloc (Nat.le_of_lt hl) _).alloc (by rw [z1]; omega) _).alloc (by rw [z2]; omega) _, hl⟩
  · exact Tkr.below (w := w1.alloc (.cells #[.slice A l.length c, .bool false] 53)) ⟨A, c, Blk.new w1 _ _, hS.below ((Below.refl _ w1).alloc (Nat.le_refl _) _), h1, h2⟩ (((Below.refl _ _).alloc (by rw [z1]; exact Nat.le_refl _) _).alloc (by rw [z2]; omega) _)
  · have h := Blk.new (w1.alloc (.cells #[.slice A l.length c, .bool false] 53)) 54 #[.func (.func 30) #[.pointer (some ⟨w1.heap.size, 0, none⟩)] #[]]
    rw [z1] at h
    exact Blk.alloc h _
  · have h := Blk.new ((w1.alloc (.cells #[.slice A l.length c, .bool false] 53)).alloc (.cells #[.func (.func 30) #[.pointer (some ⟨w1.heap.size, 0, none⟩)] #[]] 54)) 28 #[.int .i64 0, .int .u32 0, .int .u32 0, .int .u32 0, .int .u32 0, .slice none 0 0, .slice none 0 0, .int .i64 0]
    rw [z2] at h
    exact h
theorem Rs.setI (h : Rs w T t I p i f st W) (J : Nat → UInt32) : Rs w T t J p i f st ((((W.setCell ⟨T + 1 + 1, 1, none⟩ (.int .u32 (J 0).toNat)).setCell ⟨T + 1 + 1, 2, none⟩ (.int .u32 (J 1).toNat)).setCell ⟨T + 1 + 1, 3, none⟩ (.int .u32 (J 2).toNat)).setCell ⟨T + 1 + 1, 4, none⟩ (.int .u32 (J 3).toNat)) :=
  (((h.setB (I' := mk4 (J 0) (I 1) (I 2) (I 3)) 1 (.int .u32 (J 0).toNat) rfl).setB (I' := mk4 (J 0) (J 1) (I 2) (I 3)) 2 (.int .u32 (J 1).toNat) rfl).setB (I' := mk4 (J 0) (J 1) (J 2) (I 3)) 3 (.int .u32 (J 2).toNat) rfl).setB (I' := J) 4 (.int .u32 (J 3).toNat) rfl
theorem Rs.tkc (h : Rs w T t I p i f st W) : ∃ A c, W.cell? ⟨T, 0, none⟩ = some (.slice A st.1.length c) ∧ W.cell? ⟨T, 1, none⟩ = some (.bool st.2) := by
  obtain ⟨A, c, hB, _⟩ := h.tk
  exact ⟨A, c, hB.cell 0, hB.cell 1⟩
theorem Rs.facts (h : Rs w T t I p i f st W) : (W.cell? ⟨T + 1, 0, none⟩ = some (.func (.func 30) #[.pointer (some ⟨T, 0, none⟩)] #[])) ∧
    (W.cell? ⟨T + 1 + 1, 0, none⟩ = some (.int .i64 t) ∧ W.cell? ⟨T + 1 + 1, 1, none⟩ = some (.int .u32 (I 0).toNat) ∧ W.cell? ⟨T + 1 + 1, 2, none⟩ = some (.int .u32 (I 1).toNat) ∧ W.cell? ⟨T + 1 + 1, 3, none⟩ = some (.int .u32 (I 2).toNat) ∧ W.cell? ⟨T + 1 + 1, 4, none⟩ = some (.int .u32 (I 3).toNat) ∧ W.cell? ⟨T + 1 + 1, 5, none⟩ = some p ∧ W.cell? ⟨T + 1 + 1, 6, none⟩ = some i ∧ W.cell? ⟨T + 1 + 1, 7, none⟩ = some (.int .i64 f)) ∧ (W.frozen? ⟨T + 1 + 1, 0, none⟩ = false ∧ W.frozen? ⟨T + 1 + 1, 1, none⟩ = false ∧ W.frozen? ⟨T + 1 + 1, 2, none⟩ = false ∧ W.frozen? ⟨T + 1 + 1, 3, none⟩ = false ∧ W.frozen? ⟨T + 1 + 1, 4, none⟩ = false ∧ W.frozen? ⟨T + 1 + 1, 5, none⟩ = false ∧ W.frozen? ⟨T + 1 + 1, 6, none⟩ = false ∧ W.frozen? ⟨T + 1 + 1, 7, none⟩ = false) :=
  ⟨Blk.cell h.fn 0, ⟨h.bx.cell 0, h.bx.cell 1, h.bx.cell 2, h.bx.cell 3, h.bx.cell 4, h.bx.cell 5, h.bx.cell 6, h.bx.cell 7⟩, h.bx.frozen 0, h.bx.frozen 1, h.bx.frozen 2, h.bx.frozen 3, h.bx.frozen 4, h.bx.frozen 5, h.bx.frozen 6, h.bx.frozen 7⟩
end

theorem tkW_bd {st : St32} {n N : Nat} (hb : st.2 = false) (h : n + st.1.length ≤ N) : (tkW st).2.2 = false → n + 1 + (tkW st).2.1.length ≤ N := by
  match st, hb, h with
  | ([], b), _, _ => intro h; exact absurd (show true = false from h) (by decide)
  | (x :: r, b), _, h => intro _; have e : (x :: r).length = r.length + 1 := rfl; rw [e] at h; show n + 1 + r.length ≤ N; omega

theorem tkW_le (st : St32) : (tkW st).2.1.length ≤ st.1.length := by
  match st with
  | ([], b) => exact Nat.le_refl _
  | (x :: r, b) => exact Nat.le_succ _
theorem tkD_le (st : St32) : (tkD st).2.1.length ≤ st.1.length :=
  Nat.le_trans (tkW_le _) (Nat.le_trans (tkW_le _) (Nat.le_trans (tkW_le _) (tkW_le _)))

theorem info_dig : (Tryd.prog.info? 24).map (fun i => (i.zero, i.size, i.bytes)) = some (some (.agg #[.int .u32 0, .int .u32 0, .int .u32 0, .int .u32 0]), 4, 16) := by kernel_rfl
theorem own_keep {w w' : World} {B B' E E' sz sz' n n' : Nat} {v v' : Value} {xs xs' : List Value} (h : w.ownsRow B E sz v n xs) (hown : w.ownsRow B' E' sz' v' n' xs') (hne : E ≠ E') (hk : ∀ k, k < w.heap.size → some k ≠ v'.ownBlock → w'.heap[k]? = w.heap[k]?) : w'.ownsRow B E sz v n xs := by
  refine ⟨h.1, ?_⟩
  rcases h.2 with h2 | ⟨g, cap, cur, hv, hg, hh, r⟩
  · exact .inl h2
  · refine .inr ⟨g, cap, cur, hv, hg, (hk g (Array.getElem?_eq_some_iff.1 hh).1 (fun e => ?_)).trans hh, r⟩
    rcases hown.2 with ⟨rfl, _⟩ | ⟨g', cap', cur', rfl, _, hh', _⟩
    · cases e
    · injection e with e
      subst e
      rw [hh] at hh'
      injection hh' with hh'
      injection hh' with _ hh' _
      exact hne hh'
theorem tkD_bd {st : St32} {n N : Nat} (_hb : st.2 = false) (h : n + st.1.length ≤ N) : (tkD st).2.2 = false → n + 1 + (tkD st).2.1.length ≤ N := by
  intro h2
  have e := (tkD_back h2).2
  rw [e, List.length_append] at h
  have : (dgL (tkD st).1).length = 4 := rfl
  omega

theorem own_other {w w' : World} {B E sz n g : Nat} {v : Value} {xs : List Value} (h : w.ownsRow B E sz v n xs) (hk : ∀ k, k ≠ g → w'.heap[k]? = w.heap[k]?) (hg : g < B) : w'.ownsRow B E sz v n xs := by
  refine ⟨h.1, ?_⟩
  rcases h.2 with h2 | ⟨g', cap, cur, hv, hg', hh, r⟩
  · exact .inl h2
  · exact .inr ⟨g', cap, cur, hv, hg', (hk g' (by omega)).trans hh, r⟩
theorem flat_get (ds : List (Nat → UInt32)) : ∀ (j : Nat) (h : j < ds.length) (i : Nat), i < 4 → (ds.flatMap dgL)[4 * j + i]? = some (ds[j] i) := by
  induction ds with
  | nil => intro j h; cases h
  | cons d ds ih =>
    intro j h i hi
    rw [List.flatMap_cons]
    cases j with
    | zero =>
      rw [List.getElem?_append_left (by show 4 * 0 + i < 4; omega)]
      match i, hi with
      | 0, _ => rfl
      | 1, _ => rfl
      | 2, _ => rfl
      | 3, _ => rfl
    | succ j =>
      have e : (dgL d).length = 4 := rfl
      rw [List.getElem?_append_right (by rw [e]; omega), e, show 4 * (j + 1) + i - 4 = 4 * j + i by omega]
      exact ih j (by simpa using h) i hi
theorem Sd.of_own {w : World} {B E n c : Nat} {A : Option Addr} {ds : List (Nat → UInt32)} (h : w.ownsRow B E 4 (.slice A n c) n ((ds.flatMap dgL).map wv)) : Sd w w.heap.size A ds := by
  intro h0
  have hl := h.1
  rw [List.length_map, flat_len] at hl
  rcases h.2 with ⟨_, e⟩ | ⟨g, cap, cur, hv, hg, hh, r⟩
  · omega
  · injection hv with hv _ _
    subst hv
    refine ⟨g, 0, rfl, (Array.getElem?_eq_some_iff.1 hh).1, fun j hj i hi => ?_⟩
    have e := h.cells (g := g) rfl (4 * j + i) (wv (ds[j] i)) (by rw [List.getElem?_map, flat_get ds j hj i hi]; rfl)
    have ea : (⟨g, 0, none⟩ : Addr).add (4 * j + i) = ⟨g, 0 + 4 * j + i, none⟩ := by
      unfold Addr.add; split <;> simp_all
    rw [ea] at e
    exact e

/-- The relations of the two loops, and what holds behind each. -/
def LpP (w : World) (T : Nat) (t f : Int) (I : Nat → UInt32) (R : List Int × St32) (u : Value) (W : World) : Prop :=
  ∃ (k : Nat) (A : Option Addr) (c : Nat) (st : St32) (acc : List Int), k < 4294967296 ∧ u = .int .u32 k ∧ Rs w T t I (.slice A acc.length c) (.slice none 0 0) f st W ∧ W.ownsRow (T + 3) 3 1 (.slice A acc.length c) acc.length (acc.map iv) ∧ loopT tkP k st acc = R ∧ acc.length ≤ 1000001 ∧ st.1.length ≤ 1000000 ∧ (st.2 = false → acc.length + st.1.length ≤ 1000000)
def EnP (w : World) (T : Nat) (t f : Int) (I : Nat → UInt32) (R : List Int × St32) (W : World) : Prop :=
  ∃ (A : Option Addr) (c : Nat), Rs w T t I (.slice A R.1.length c) (.slice none 0 0) f R.2 W ∧ W.ownsRow (T + 3) 3 1 (.slice A R.1.length c) R.1.length (R.1.map iv) ∧ R.1.length ≤ 1000001 ∧ R.2.1.length ≤ 1000000
def LpD (w : World) (T : Nat) (t f : Int) (I : Nat → UInt32) (p : Value) (qs : List Int) (R : List (Nat → UInt32) × St32) (u : Value) (W : World) : Prop :=
  ∃ (k : Nat) (A : Option Addr) (c : Nat) (st : St32) (acc : List (Nat → UInt32)), k < 4294967296 ∧ u = .int .u32 k ∧ Rs w T t I p (.slice A acc.length c) f st W ∧ W.ownsRow (T + 3) 3 1 p qs.length (qs.map iv) ∧ W.ownsRow (T + 3) 24 4 (.slice A acc.length c) acc.length ((acc.flatMap dgL).map wv) ∧ loopT tkD k st acc = R ∧ acc.length ≤ 1000001 ∧ st.1.length ≤ 1000000 ∧ (st.2 = false → acc.length + st.1.length ≤ 1000000)
def EnD (w : World) (T : Nat) (t f : Int) (I : Nat → UInt32) (p : Value) (qs : List Int) (R : List (Nat → UInt32) × St32) (W : World) : Prop :=
  ∃ (A : Option Addr) (c : Nat), Rs w T t I p (.slice A R.1.length c) f R.2 W ∧ W.ownsRow (T + 3) 3 1 p qs.length (qs.map iv) ∧ W.ownsRow (T + 3) 24 4 (.slice A R.1.length c) R.1.length ((R.1.flatMap dgL).map wv) ∧ R.1.length ≤ 1000001

/-- What comes of reading words: a recipe that may be, whose words they are; or the error, and they are no such recipe's. -/
def ReadPost (l : List UInt32) (w : World) (r : Ending) (W' : World) : Prop :=
  ((∃ (t : Int) (I : Nat → UInt32) (ps : List Int) (ds : List (Nat → UInt32)) (f : Int) (A B : Option Addr) (c e : Nat), r = .returned (.tuple #[.agg #[.int .i64 t, .int .u32 (I 0).toNat, .int .u32 (I 1).toNat, .int .u32 (I 2).toNat, .int .u32 (I 3).toNat, .slice A ps.length c, .slice B ds.length e, .int .i64 f], .int .i64 0]) ∧
      wordsR t I ps ds f = l ∧ rightR t I ps ds.length f = true ∧ Sl W' W'.heap.size A ps.length (ps.map iv) ∧ Sd W' W'.heap.size B ds) ∨
    (r = .returned (.tuple #[.agg zrec, .int .i64 7]) ∧ ∀ (t : Int) (I : Nat → UInt32) (ps : List Int) (ds : List (Nat → UInt32)) (f : Int), rightR t I ps ds.length f = true → wordsR t I ps ds f ≠ l)) ∧ Below w.heap.size w W'

set_option maxRecDepth 100000 in
set_option maxHeartbeats 8000000 in
theorem recipe_Read_any (s : ByteArray) (l : List UInt32) (w : World) (h1 : 1 ≤ s.size) (h2 : s.data.toList.take 1 = [82]) (h4 : (s.size - 1) % 4 = 0) (hm : s.size ≤ 1000000) (hl : wordsL (s.data.toList.drop 1) = l) :
    Calls Tryd.prog 15 #[.string s] w (ReadPost l w) := by
  have hx : (s.extract 0 1).toList = s.data.toList.take 1 := by rw [Lib.extract_toList]; rfl
  have hlt : ¬ (s.size : Int) < 1 := by omega
  have h2' : (s.extract 0 1).toList = [82] := hx.trans h2
  have hed : (s.extract 1 s.size).data.toList = s.data.toList.drop 1 := by
    rw [Lib.extract_data]
    exact List.take_of_length_le (by rw [List.length_drop]; exact Nat.le_refl _)
  have hes : (s.extract 1 s.size).size = s.size - 1 := by
    have h : (s.extract 1 s.size).data.toList.length = (s.extract 1 s.size).size := rfl
    rw [hed, List.length_drop] at h
    exact h.symm
  have hll : l.length ≤ 1000000 := by
    rw [← hl, wordsL_length _ ((s.size - 1) / 4) (by rw [List.length_drop]; show s.size - 1 = _; omega)]
    omega
  have HES := Lib.hid hes
  have HED := Lib.hid (show wordsL (s.extract 1 s.size).data.toList = l by rw [hed, hl])
  have HZ := Lib.hid (Blk.new w 28 zrec)
  clear hx h2 hes hed hl
  go_enter Tryd.func15, Tryd.ntmps15
  go_wp2_with fail
  refine (word_Words _ _ (by rw [HES.out]; omega) (by rw [HES.out]; exact h4)).mono ?_
  rintro e w1 ⟨⟨v, rfl, hown⟩, hb1⟩
  rw [HED.out] at hown
  have hZ1 := Lib.hid (HZ.out.below hb1 HZ.out.lt)
  have hB1 := Lib.hid (below_new hb1)
  obtain ⟨A, c, rfl, hc1, hc2, hS⟩ := Sl.of_own hown
  have hwlt : w.heap.size < w1.heap.size := hZ1.out.lt
  have hR := Rs.new hZ1.out hB1.out hS hc1 hc2
  clear hown hb1 HZ hc2 hS hZ1 hB1
  go_wp2_with fail
  obtain ⟨T, hT⟩ : ∃ T, T = w1.heap.size := ⟨_, rfl⟩
  rw [← hT] at hR hwlt ⊢
  generalize World.alloc _ _ = W0 at hR ⊢
  clear hT
  refine (taker_word T _ _ hR.tk).mono ?_
  rintro e w2 ⟨rfl, hT, hO⟩
  have hR2 := Lib.hid (hR.call hT hO)
  obtain ⟨⟨a, s1⟩, hk1⟩ : ∃ y, tkW (l, false) = y := ⟨_, rfl⟩
  rw [hk1] at hR2 ⊢
  dsimp only at hR2 ⊢
  have HK1 := Lib.hid hk1
  clear hT hO hR hk1
  obtain ⟨c0, ⟨p0, p1, p2, p3, p4, p5, p6, p7⟩, ⟨f0, f1, f2, f3, f4, f5, f6, f7⟩⟩ := hR2.out.facts
  have ha := a.toNat_lt
  go_wp2_with fail
  clear c0 p0 p1 p2 p3 p4 p5 p6 p7 f0 f1 f2 f3 f4 f5 f6 f7
  have hR3 : Rs w T a.toNat (fun _ => 0) (.slice none 0 0) (.slice none 0 0) 0 s1 _ := hR2.out.setB 0 (.int .i64 a.toNat) rfl
  refine (read_dig T (T + 1) s1 _ (Nat.lt_succ_self _) hR3.tk hR3.fn).mono ?_
  rintro e w3 ⟨rfl, hT, hO⟩
  have hR4 := Lib.hid (hR3.call hT hO)
  obtain ⟨⟨I, s2⟩, hk2⟩ : ∃ y, tkD s1 = y := ⟨_, rfl⟩
  rw [hk2] at hR4 ⊢
  dsimp only at hR4 ⊢
  have HK2 := Lib.hid hk2
  clear hT hO hR3 hR2 hk2
  obtain ⟨c0, ⟨p0, p1, p2, p3, p4, p5, p6, p7⟩, ⟨f0, f1, f2, f3, f4, f5, f6, f7⟩⟩ := hR4.out.facts
  go_wp2_with fail
  clear c0 p0 p1 p2 p3 p4 p5 p6 p7 f0 f1 f2 f3 f4 f5 f6 f7
  have hR5 := hR4.out.setI I
  refine (taker_word T _ _ hR5.tk).mono ?_
  rintro e w4 ⟨rfl, hT, hO⟩
  have hR6 := Lib.hid (hR5.call hT hO)
  obtain ⟨⟨f, s3⟩, hk3⟩ : ∃ y, tkW s2 = y := ⟨_, rfl⟩
  rw [hk3] at hR6 ⊢
  dsimp only at hR6 ⊢
  have HK3 := Lib.hid hk3
  clear hT hO hR5 hR4 hk3
  obtain ⟨c0, ⟨p0, p1, p2, p3, p4, p5, p6, p7⟩, ⟨f0, f1, f2, f3, f4, f5, f6, f7⟩⟩ := hR6.out.facts
  have hf := f.toNat_lt
  go_wp2_with fail
  clear c0 p0 p1 p2 p3 p4 p5 p6 p7 f0 f1 f2 f3 f4 f5 f6 f7
  have hR7 : Rs w T a.toNat I (.slice none 0 0) (.slice none 0 0) f.toNat s3 _ := hR6.out.setB 7 (.int .i64 f.toNat) rfl
  refine (taker_word T _ _ hR7.tk).mono ?_
  rintro e w5 ⟨rfl, hT, hO⟩
  have hR8 := Lib.hid (hR7.call hT hO)
  obtain ⟨⟨n, s4⟩, hk4⟩ : ∃ y, tkW s3 = y := ⟨_, rfl⟩
  rw [hk4] at hR8 ⊢
  dsimp only at hR8 ⊢
  have HK4 := Lib.hid hk4
  clear hT hO hR7 hR6 hk4
  obtain ⟨c0, ⟨p0, p1, p2, p3, p4, p5, p6, p7⟩, ⟨f0, f1, f2, f3, f4, f5, f6, f7⟩⟩ := hR8.out.facts
  have hn := n.toNat_lt
  go_upto_block 0 with (fail)
  clear c0 p0 p1 p2 p3 p4 p5 p6 p7 f0 f1 f2 f3 f4 f5 f6 f7
  have hl4 : s4.1.length ≤ 1000000 := by
    have e1 := tkW_le (l, false)
    have e2 := tkD_le s1
    have e3 := tkW_le s2
    have e4 := tkW_le s3
    rw [HK1.out] at e1; rw [HK2.out] at e2; rw [HK3.out] at e3; rw [HK4.out] at e4
    exact Nat.le_trans e4 (Nat.le_trans e3 (Nat.le_trans e2 (Nat.le_trans e1 hll)))
  obtain ⟨R5, hk5⟩ : ∃ y, loopT tkP n.toNat s4 [] = y := ⟨_, rfl⟩
  have HL0 : Hid (LpP w T a.toNat f.toNat I R5 (.int .u32 n.toNat) w5) := ⟨n.toNat, none, 0, s4, [], hn, rfl, hR8.out, World.ownsRow_nil _ _ _ _, hk5, by decide, hl4, fun _ => by simpa using hl4⟩
  have HK5 := Lib.hid hk5
  clear hk5 hl4 hR8 hn
  go_cut [10] from 49 to 67 (fun _ wr => EnP w T a.toNat f.toNat I R5 wr)
  case first =>
    go_wp2_with fail
    go_loopw [10] (fun u wr => LpP w T a.toNat f.toNat I R5 u wr) (fun u _ => (intOf u).toNat)
    case atStart => exact HL0.out
    case round =>
      clear HL0
      obtain ⟨k, Ap, cp, st, acc, hk, rfl, hR, hown, HE, hacc, hb6, HBD⟩ := hrel
      obtain ⟨c0, ⟨p0, p1, p2, p3, p4, p5, p6, p7⟩, ⟨f0, f1, f2, f3, f4, f5, f6, f7⟩⟩ := hR.facts
      obtain ⟨A0, c0', t0, t1⟩ := hR.tkc
      have htop : T + 1 + 1 < wr.heap.size := hR.bx.lt
      by_cases hb : st.2 = false ∧ 0 < k
      · obtain ⟨hb, hk0⟩ := hb
        obtain ⟨k, rfl⟩ : ∃ j, k = j + 1 := ⟨k - 1, by omega⟩
        rw [hb] at t1
        obtain ⟨⟨x, st'⟩, hx⟩ : ∃ y, tkW st = y := ⟨_, rfl⟩
        have HE' : Hid (loopT tkP k st' (acc ++ [(x.toNat : Int)]) = R5) := by
          rw [loopT_step _ _ _ _ hb] at HE
          have e2 : tkP st = ((x.toNat : Int), st') := by unfold tkP; rw [hx]
          rw [e2] at HE
          exact HE
        have HBD' : Hid (st'.1.length ≤ 1000000 ∧ (st'.2 = false → (acc ++ [(x.toNat : Int)]).length + st'.1.length ≤ 1000000)) := by
          have e := tkW_bd hb (HBD hb)
          have e2 := tkW_le st
          rw [hx] at e e2
          refine ⟨Nat.le_trans e2 hb6, fun h => ?_⟩
          rw [List.length_append]
          exact e h
        have hacc' : acc.length ≤ 1000000 := by have := HBD hb; omega
        have HX := Lib.hid hx
        have hxl := x.toNat_lt
        have kt : ∀ W : World, Tkr W T st → Calls Tryd.prog 30 #[.pointer (some ⟨T, 0, none⟩)] W fun e w' => e = .returned (.int .u32 x.toNat) ∧ Tkr w' T st' ∧ Only T W w' := fun W h => by
          have := taker_word T st W h
          rw [hx] at this
          exact this
        have KT := Lib.hid kt
        have hwx : IntKind.i64.wrap (x.toNat : Int) = x.toNat := IntWalk.i64_in _ (by omega)
        have hk0I : (0 : Int) < ((k + 1 : Nat) : Int) := by omega
        clear hx kt hb hk0 HBD hb6 HE A0 c0' t0
        go_wp2_with fail
        go_region_law ((first
          | (refine step_append_new rfl rfl _ _ 25 rfl (T + 3) (.int .i64 0) 1 8 Tryd.underlying25 info_int rfl (by decide) _ acc.length _ rfl hown 1 rfl rfl (by simp [Value.oneCell']) (by omega) (by omega) htop (by decide) ?_; intro g1 cg w3 hown1 hb1 hk1; have hM3 := hR.above hb1; clear c0 p0 p1 p2 p3 p4 p5 p6 p7 f0 f1 f2 f3 f4 f5 f6 f7; obtain ⟨c0, ⟨p0, p1, p2, p3, p4, p5, p6, p7⟩, ⟨f0, f1, f2, f3, f4, f5, f6, f7⟩⟩ := hM3.facts)
          | (refine step_call rfl 30 #[.pointer (some ⟨T, 0, none⟩)] _ (by as_aux_lemma => kernel_rfl) (KT.out _ hR.drew.tk) ?_; rintro e w6 ⟨rfl, hT6, hO6⟩; replace hown := own_only (w := wr.drew) hown hO6 (by omega); replace hR := hR.drew.call hT6 hO6; replace htop : T + 1 + 1 < w6.heap.size := hR.bx.lt; clear hT6 hO6; clear c0 p0 p1 p2 p3 p4 p5 p6 p7 f0 f1 f2 f3 f4 f5 f6 f7; obtain ⟨c0, ⟨p0, p1, p2, p3, p4, p5, p6, p7⟩, ⟨f0, f1, f2, f3, f4, f5, f6, f7⟩⟩ := hR.facts; refine ⟨_, rfl, ?_⟩)))
        all_goals
          have hR7 := hM3.setB (p' := .slice (some ⟨g1, 0, none⟩) (acc.length + 1) cg) 5 (.slice (some ⟨g1, 0, none⟩) (acc.length + 1) cg) rfl
          have hown7 := ownsRow_setCell_below (a := ⟨T + 1 + 1, 5, none⟩) hown1 (show T + 1 + 1 < T + 3 by omega) (.slice (some ⟨g1, 0, none⟩) (acc.length + 1) cg)
          have hel : acc.length + 1 = (acc ++ [(x.toNat : Int)]).length := by rw [List.length_append]; rfl
          have hem : acc.map iv ++ #[Value.int .i64 x.toNat].toList = (acc ++ [(x.toNat : Int)]).map iv := by rw [List.map_append]; rfl
          have HR7 : Hid (LpP w T a.toNat f.toNat I R5 (.int .u32 k) (w3.setCell ⟨T + 1 + 1, 5, none⟩ (.slice (some ⟨g1, 0, none⟩) (acc.length + 1) cg))) := by
            refine ⟨k, some ⟨g1, 0, none⟩, cg, st', acc ++ [(x.toNat : Int)], by omega, rfl, ?_, ?_, HE'.out, by rw [← hel]; omega, HBD'.out.1, HBD'.out.2⟩
            · rw [← hel]; exact hR7
            · rw [← hel, ← hem]; exact hown7
          have hsub : IntKind.u32.wrap ((k : Int) + 1 - 1) = k := by rw [IntKind.wrap_u32']; omega
          clear c0 p0 p1 p2 p3 p4 p5 p6 p7 f0 f1 f2 f3 f4 f5 f6 f7
          clear hM3 hR hown hown1 hown7 hb1 hk1 hR7 hel hem HE' HBD'
          go_wp2_with fail
          go_roundw
          case rel => exact HR7.out
          case measure => simp [intOf]
      · have hz : k = 0 ∨ (0 < k ∧ st.2 = true) := by
          rcases Nat.eq_zero_or_pos k with h | h
          · exact .inl h
          · refine .inr ⟨h, ?_⟩
            cases h2 : st.2 with
            | true => rfl
            | false => exact absurd ⟨h2, h⟩ hb
        have hqs : (acc, st) = R5 := by
          rcases hz with rfl | ⟨_, h⟩
          · rw [loopT_zero] at HE; exact HE
          · rw [loopT_short _ _ _ _ h] at HE; exact HE
        have HEn : Hid (EnP w T a.toNat f.toNat I R5 wr) := by
          subst hqs
          exact ⟨Ap, cp, hR, hown, hacc, hb6⟩
        clear hb HE HBD hb6 hown hR A0 c0' t0 htop hqs
        rcases hz with rfl | ⟨hk0, hb⟩
        · go_wp2_with fail
          go_meet
          case rel => exact HEn.out
        · have hk0I : (0 : Int) < k := by omega
          rw [hb] at t1
          go_wp2_with fail
          go_meet
          case rel => exact HEn.out
  case rest =>
    clear HL0
    obtain ⟨qs, s5⟩ := R5
    obtain ⟨Ap, cp, hR, hown, hacc, hb6⟩ := hcut
    dsimp only at hR hown hacc hb6
    obtain ⟨c0, ⟨p0, p1, p2, p3, p4, p5, p6, p7⟩, ⟨f0, f1, f2, f3, f4, f5, f6, f7⟩⟩ := hR.facts
    have HR := Lib.hid hR
    have HOWN := Lib.hid hown
    clear hR hown
    go_wp2_with fail
    refine (taker_word T _ _ HR.out.tk).mono ?_
    rintro e w6 ⟨rfl, hT, hO⟩
    have hR8 := Lib.hid (HR.out.call hT hO)
    have hown8 := own_only HOWN.out hO (by omega)
    obtain ⟨⟨m, s6⟩, hk6⟩ : ∃ y, tkW s5 = y := ⟨_, rfl⟩
    have hl6 : s6.1.length ≤ 1000000 := by
      have e1 := tkW_le s5
      rw [hk6] at e1
      exact Nat.le_trans e1 hb6
    rw [hk6] at hR8 ⊢
    dsimp only at hR8 ⊢
    have HK6 := Lib.hid hk6
    have hmn := m.toNat_lt
    clear c0 p0 p1 p2 p3 p4 p5 p6 p7 f0 f1 f2 f3 f4 f5 f6 f7
    clear hT hO HR HOWN hk6
    obtain ⟨c0, ⟨p0, p1, p2, p3, p4, p5, p6, p7⟩, ⟨f0, f1, f2, f3, f4, f5, f6, f7⟩⟩ := hR8.out.facts
    go_upto_block 2 with (fail)
    clear c0 p0 p1 p2 p3 p4 p5 p6 p7 f0 f1 f2 f3 f4 f5 f6 f7
    obtain ⟨R7, hk7⟩ : ∃ y, loopT tkD m.toNat s6 [] = y := ⟨_, rfl⟩
    have HL0 : Hid (LpD w T a.toNat f.toNat I (.slice Ap qs.length cp) qs R7 (.int .u32 m.toNat) w6) := ⟨m.toNat, none, 0, s6, [], hmn, rfl, hR8.out, hown8, World.ownsRow_nil _ _ _ _, hk7, by decide, hl6, fun _ => by simpa using hl6⟩
    have HK7 := Lib.hid hk7
    clear hk7 hl6 hR8 hmn hown8
    go_cut [11] from 70 to 87 (fun _ wr => EnD w T a.toNat f.toNat I (.slice Ap qs.length cp) qs R7 wr)
    case first =>
      go_wp2_with fail
      go_loopw [11] (fun u wr => LpD w T a.toNat f.toNat I (.slice Ap qs.length cp) qs R7 u wr) (fun u _ => (intOf u).toNat)
      case atStart => exact HL0.out
      case round =>
        clear HL0
        obtain ⟨k, Ai, ci, st, ac, hk, rfl, hR, HP, hown, HE, hacc2, hb7, HBD⟩ := hrel
        obtain ⟨c0, ⟨p0, p1, p2, p3, p4, p5, p6, p7⟩, ⟨f0, f1, f2, f3, f4, f5, f6, f7⟩⟩ := hR.facts
        obtain ⟨A0, c0', t0, t1⟩ := hR.tkc
        have htop : T + 1 + 1 < wr.heap.size := hR.bx.lt
        by_cases hb : st.2 = false ∧ 0 < k
        · obtain ⟨hb, hk0⟩ := hb
          obtain ⟨k, rfl⟩ : ∃ j, k = j + 1 := ⟨k - 1, by omega⟩
          rw [hb] at t1
          obtain ⟨⟨x, st'⟩, hx⟩ : ∃ y, tkD st = y := ⟨_, rfl⟩
          have HE' : Hid (loopT tkD k st' (ac ++ [x]) = R7) := by
            rw [loopT_step _ _ _ _ hb, hx] at HE
            exact HE
          have HBD' : Hid (st'.1.length ≤ 1000000 ∧ (st'.2 = false → (ac ++ [x]).length + st'.1.length ≤ 1000000)) := by
            have e := tkD_bd hb (HBD hb)
            have e2 := tkD_le st
            rw [hx] at e e2
            refine ⟨Nat.le_trans e2 hb7, fun h => ?_⟩
            rw [List.length_append]
            exact e h
          have hacc' : ac.length ≤ 1000000 := by have := HBD hb; omega
          have kt : ∀ W : World, Tkr W T st → Fnc W (T + 1) T → Calls Tryd.prog 31 #[.pointer (some ⟨T + 1, 0, none⟩)] W fun e w' => e = .returned (.agg #[.int .u32 (x 0).toNat, .int .u32 (x 1).toNat, .int .u32 (x 2).toNat, .int .u32 (x 3).toNat]) ∧ Tkr w' T st' ∧ Only T W w' := fun W h hF => by
            have := read_dig T (T + 1) st W (Nat.lt_succ_self _) h hF
            rw [hx] at this
            exact this
          have KT := Lib.hid kt
          have hk0I : (0 : Int) < ((k + 1 : Nat) : Int) := by omega
          clear hx kt hb hk0 HBD HE A0 c0' t0 hb7
          go_wp2_with fail
          go_region_law ((first
            | (refine step_append_new rfl rfl _ _ 26 rfl (T + 3) (.agg #[.int .u32 0, .int .u32 0, .int .u32 0, .int .u32 0]) 4 16 Tryd.underlying26 info_dig rfl (by decide) _ ac.length _ rfl hown 1 rfl rfl (by simp [Value.oneCell']) (by omega) (by omega) htop (by decide) ?_; intro g1 cg w3 hown1 hb1 hk1; have hM3 := hR.above hb1; have HP3 := own_keep HP hown (by decide) hk1; clear c0 p0 p1 p2 p3 p4 p5 p6 p7 f0 f1 f2 f3 f4 f5 f6 f7; obtain ⟨c0, ⟨p0, p1, p2, p3, p4, p5, p6, p7⟩, ⟨f0, f1, f2, f3, f4, f5, f6, f7⟩⟩ := hM3.facts)
            | (refine step_call rfl 31 #[.pointer (some ⟨T + 1, 0, none⟩)] _ (by as_aux_lemma => kernel_rfl) (KT.out _ hR.drew.tk hR.drew.fn) ?_; rintro e w6 ⟨rfl, hT6, hO6⟩; replace hown := own_only (w := wr.drew) hown hO6 (by omega); replace HP := own_only (w := wr.drew) HP hO6 (by omega); replace hR := hR.drew.call hT6 hO6; replace htop : T + 1 + 1 < w6.heap.size := hR.bx.lt; clear hT6 hO6; clear c0 p0 p1 p2 p3 p4 p5 p6 p7 f0 f1 f2 f3 f4 f5 f6 f7; obtain ⟨c0, ⟨p0, p1, p2, p3, p4, p5, p6, p7⟩, ⟨f0, f1, f2, f3, f4, f5, f6, f7⟩⟩ := hR.facts; refine ⟨_, rfl, ?_⟩)))
          all_goals
            have hR7 := hM3.setB (i' := .slice (some ⟨g1, 0, none⟩) (ac.length + 1) cg) 6 (.slice (some ⟨g1, 0, none⟩) (ac.length + 1) cg) rfl
            have hown7 := ownsRow_setCell_below (a := ⟨T + 1 + 1, 6, none⟩) hown1 (show T + 1 + 1 < T + 3 by omega) (.slice (some ⟨g1, 0, none⟩) (ac.length + 1) cg)
            have HP7 := ownsRow_setCell_below (a := ⟨T + 1 + 1, 6, none⟩) HP3 (show T + 1 + 1 < T + 3 by omega) (.slice (some ⟨g1, 0, none⟩) (ac.length + 1) cg)
            have hel : ac.length + 1 = (ac ++ [x]).length := by rw [List.length_append]; rfl
            have hem : (ac.flatMap dgL).map wv ++ #[Value.int .u32 (x 0).toNat, .int .u32 (x 1).toNat, .int .u32 (x 2).toNat, .int .u32 (x 3).toNat].toList = ((ac ++ [x]).flatMap dgL).map wv := by rw [List.flatMap_append, List.map_append]; rfl
            have HR7 : Hid (LpD w T a.toNat f.toNat I (.slice Ap qs.length cp) qs R7 (.int .u32 k) (w3.setCell ⟨T + 1 + 1, 6, none⟩ (.slice (some ⟨g1, 0, none⟩) (ac.length + 1) cg))) := by
              refine ⟨k, some ⟨g1, 0, none⟩, cg, st', ac ++ [x], by omega, rfl, ?_, HP7, ?_, HE'.out, by rw [← hel]; omega, HBD'.out.1, HBD'.out.2⟩
              · rw [← hel]; exact hR7
              · rw [← hel, ← hem]; exact hown7
            have hsub : IntKind.u32.wrap ((k : Int) + 1 - 1) = k := by rw [IntKind.wrap_u32']; omega
            clear c0 p0 p1 p2 p3 p4 p5 p6 p7 f0 f1 f2 f3 f4 f5 f6 f7
            clear hM3 hR hown hown1 hown7 hb1 hk1 hR7 hel hem HE' HBD' HP HP3 HP7
            go_wp2_with fail
            go_roundw
            case rel => exact HR7.out
            case measure => simp [intOf]
        · have hz : k = 0 ∨ (0 < k ∧ st.2 = true) := by
            rcases Nat.eq_zero_or_pos k with h | h
            · exact .inl h
            · refine .inr ⟨h, ?_⟩
              cases h2 : st.2 with
              | true => rfl
              | false => exact absurd ⟨h2, h⟩ hb
          have hqs : (ac, st) = R7 := by
            rcases hz with rfl | ⟨_, h⟩
            · rw [loopT_zero] at HE; exact HE
            · rw [loopT_short _ _ _ _ h] at HE; exact HE
          have HEn : Hid (EnD w T a.toNat f.toNat I (.slice Ap qs.length cp) qs R7 wr) := by
            subst hqs
            exact ⟨Ai, ci, hR, HP, hown, hacc2⟩
          clear hb HE HBD hb7 hown hR A0 c0' t0 htop hqs HP
          rcases hz with rfl | ⟨hk0, hb⟩
          · go_wp2_with fail
            go_meet
            case rel => exact HEn.out
          · have hk0I : (0 : Int) < k := by omega
            rw [hb] at t1
            go_wp2_with fail
            go_meet
            case rel => exact HEn.out
    case rest =>
      clear HL0
      obtain ⟨es, s7⟩ := R7
      obtain ⟨Ai, ci, hR, HP, hown, hacc2⟩ := hcut
      dsimp only at hR HP hown hacc2
      obtain ⟨c0, ⟨p0, p1, p2, p3, p4, p5, p6, p7⟩, ⟨f0, f1, f2, f3, f4, f5, f6, f7⟩⟩ := hR.facts
      obtain ⟨A0, c0', t0, t1⟩ := hR.tkc
      have HRUN : Hid (Run l a I f n qs m es s7) := ⟨s1, s2, s3, s4, s5, s6, HK1.out, HK2.out, HK3.out, HK4.out, HK5.out, HK6.out, HK7.out⟩
      have hz : Blk wc w.heap.size 28 #[.int .i64 0, .int .u32 0, .int .u32 0, .int .u32 0, .int .u32 0, .slice none 0 0, .slice none 0 0, .int .i64 0] := hR.z
      have HR := Lib.hid hR
      have HPP := Lib.hid HP
      have HOW := Lib.hid hown
      obtain ⟨sl, sb⟩ := s7
      dsimp only at t0 t1
      clear hR HP hown
      cases sb with
      | true =>
        obtain ⟨⟨z0, z1, z2, z3, z4, z5, z6, z7⟩, g0, g1, g2, g3, g4, g5, g6, g7⟩ := hz.all8
        go_wp2_with fail
        obtain ⟨W8, hW8, hB8, hbel8, _⟩ := Blk.out8 hz HR.out.bel (Nat.le_refl _) (.int .i64 0) (.int .u32 0) (.int .u32 0) (.int .u32 0) (.int .u32 0) (.slice none 0 0) (.slice none 0 0) (.int .i64 0)
        rw [← hW8]
        clear hW8
        obtain ⟨⟨r0, r1, r2, r3, r4, r5, r6, r7⟩, _⟩ := hB8.all8
        refine bodyPost_ret (by simp [results, Tryd.results15, go_sem, r0, r1, r2, r3, r4, r5, r6, r7]; try rfl) rfl ?_
        exact ⟨.inr ⟨rfl, run_bad HRUN.out (.inl rfl)⟩, hbel8⟩
      | false =>
        cases sl with
        | cons y ys =>
          have hpos : (0 : Int) < ((y :: ys).length : Int) := by rw [List.length_cons]; omega
          obtain ⟨N, hN⟩ : ∃ N, (y :: ys).length = N := ⟨_, rfl⟩
          rw [hN] at t0 hpos
          clear hN
          obtain ⟨⟨z0, z1, z2, z3, z4, z5, z6, z7⟩, g0, g1, g2, g3, g4, g5, g6, g7⟩ := hz.all8
          go_wp2_with fail
          obtain ⟨W8, hW8, hB8, hbel8, _⟩ := Blk.out8 hz HR.out.bel (Nat.le_refl _) (.int .i64 0) (.int .u32 0) (.int .u32 0) (.int .u32 0) (.int .u32 0) (.slice none 0 0) (.slice none 0 0) (.int .i64 0)
          rw [← hW8]
          clear hW8
          obtain ⟨⟨r0, r1, r2, r3, r4, r5, r6, r7⟩, _⟩ := hB8.all8
          refine bodyPost_ret (by simp [results, Tryd.results15, go_sem, r0, r1, r2, r3, r4, r5, r6, r7]; try rfl) rfl ?_
          exact ⟨.inr ⟨rfl, run_bad HRUN.out (.inr (.inl (fun h => by cases h)))⟩, hbel8⟩
        | nil =>
          have hSl : Sl wc wc.heap.size Ap qs.length (qs.map iv) := by
            obtain ⟨A', c', e, _, _, h⟩ := Sl.of_own HPP.out
            injection e with e _ _
            subst e
            exact h
          obtain ⟨bb, hbb⟩ : ∃ b, rightR a.toNat I qs es.length f.toNat = b := ⟨_, rfl⟩
          have kr := recipe_Right (a.toNat : Int) I Ap Ai qs cp es.length ci (f.toNat : Int) wc hSl (by omega) (by omega)
          rw [hbb] at kr
          have KR := Lib.hid kr
          have HBB := Lib.hid hbb
          clear kr hbb hSl
          go_wp2_with fail
          refine KR.out.mono ?_
          rintro e w8 ⟨rfl, hb8⟩
          have hR8 := HR.out.above (hb8.mono HR.out.top)
          have hz8 : Blk w8 w.heap.size 28 #[.int .i64 0, .int .u32 0, .int .u32 0, .int .u32 0, .int .u32 0, .slice none 0 0, .slice none 0 0, .int .i64 0] := hR8.z
          obtain ⟨⟨z0, z1, z2, z3, z4, z5, z6, z7⟩, g0, g1, g2, g3, g4, g5, g6, g7⟩ := hz8.all8
          clear c0 p0 p1 p2 p3 p4 p5 p6 p7 f0 f1 f2 f3 f4 f5 f6 f7
          obtain ⟨c0, ⟨p0, p1, p2, p3, p4, p5, p6, p7⟩, ⟨f0, f1, f2, f3, f4, f5, f6, f7⟩⟩ := hR8.facts
          have HR8 := Lib.hid hR8
          clear hR8 t0 t1
          cases bb with
          | false =>
            go_wp2_with fail
            obtain ⟨W8, hW8, hB8, hbel8, _⟩ := Blk.out8 hz8 HR8.out.bel (Nat.le_refl _) (.int .i64 0) (.int .u32 0) (.int .u32 0) (.int .u32 0) (.int .u32 0) (.slice none 0 0) (.slice none 0 0) (.int .i64 0)
            rw [← hW8]
            clear hW8
            obtain ⟨⟨r0, r1, r2, r3, r4, r5, r6, r7⟩, _⟩ := hB8.all8
            refine bodyPost_ret (by simp [results, Tryd.results15, go_sem, r0, r1, r2, r3, r4, r5, r6, r7]; try rfl) rfl ?_
            exact ⟨.inr ⟨rfl, run_bad HRUN.out (.inr (.inr HBB.out))⟩, hbel8⟩
          | true =>
            go_wp2_with fail
            obtain ⟨W8, hW8, hB8, hbel8, hk8⟩ := Blk.out8 hz8 HR8.out.bel (Nat.le_refl _) (.int .i64 a.toNat) (.int .u32 (I 0).toNat) (.int .u32 (I 1).toNat) (.int .u32 (I 2).toNat) (.int .u32 (I 3).toNat) (.slice Ap qs.length cp) (.slice Ai es.length ci) (.int .i64 f.toNat)
            rw [← hW8]
            clear hW8
            obtain ⟨⟨r0, r1, r2, r3, r4, r5, r6, r7⟩, _⟩ := hB8.all8
            have hlt := HR8.out.lt
            have o1 := own_other (own_below HPP.out rfl hb8) hk8 (by omega)
            have o2 := own_other (own_below HOW.out rfl hb8) hk8 (by omega)
            refine bodyPost_ret (by simp [results, Tryd.results15, go_sem, r0, r1, r2, r3, r4, r5, r6, r7]; try rfl) rfl ?_
            refine ⟨.inl ⟨a.toNat, I, qs, es, f.toNat, Ap, Ai, cp, ci, rfl, run_back HRUN.out rfl rfl, HBB.out, ?_, Sd.of_own o2⟩, hbel8⟩
            obtain ⟨A', c', e, _, _, h⟩ := Sl.of_own o1
            injection e with e _ _
            subst e
            exact h
end Go.Proofs.YtdkkomcokefkhaaDoor
