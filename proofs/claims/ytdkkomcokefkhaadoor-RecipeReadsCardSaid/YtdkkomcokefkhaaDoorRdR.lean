/- Recipes, lists of numbers and of digests, and two bytes among a law's inputs, opened. -/
import Derived.Test.YtdkkomcokefkhaaDoorRdA
import Derived.Test.YtdkkomcokefkhaaDoorRcF
import Derived.Lib.SmallJoins
import Derived.Laws.IdiomArrays
namespace Go.Proofs.YtdkkomcokefkhaaDoor
open Go.RowKit Go.ChangeShapes Go.WideShapes Go.ChangeAt Go.Joins Go.Deep

section
variable {H : Type} {enc : TypeId × Value → H} {P : Program} {w : World} {base : Nat} {spare : Nat → Bool} {held : Bool} {r : Reach} {b0 : Nat} {t : TypeId} {v : Value} {d : DataW H} {ps : List MemPlace}

/-- A slice of numbers, opened. -/
theorem rdf_ints {e : TypeId} {fuel : Nat} {x : DataW H × List MemPlace} (ht : P.underlying t = some (.slice e)) (he : P.underlying e = some (.int .i64)) (hc : P.cellsOf e = 1)
    (h : DataW.trod enc P w base spare held fuel t [v] = some x) {B : Nat} (hlt : ∀ p ∈ x.2, p.block < B) :
    ∃ (A : Option Addr) (c : Nat) (xs : List Int), v = .slice A xs.length c ∧ xs.length ≤ c ∧ c ≤ maxLen ∧ Sl w B A xs.length (xs.map iv) := by
  rcases open_ints ht he hc h with ⟨hcs, _⟩ | ⟨a, len, cap, zs, hcs, _, hl, hm, hz, hx, hcell, hwz⟩
  · simp at hcs
    subst hcs
    exact ⟨none, 0, [], rfl, Nat.le_refl _, by unfold maxLen; omega, Sl.nil⟩
  · simp at hcs
    subst hcs
    have hlen : len ≤ zs.length := by split at hz <;> omega
    have htl : (zs.take len).length = len := by rw [List.length_take]; omega
    refine ⟨some a, cap, zs.take len, by rw [htl], by omega, hm, by rw [htl]; simp; omega, fun hn => ?_⟩
    rw [htl] at hn
    have h0 := hcell 0 (by omega)
    obtain ⟨b, off, spot⟩ := a
    have hspot : spot = none := by simpa [Addr.add] using World.cell?_spot h0
    subst hspot
    refine ⟨b, off, rfl, ?_, ?_⟩
    · refine hlt (.cell b off) ?_
      rw [hx]
      simp only [MemPlace.row]
      exact List.mem_map.2 ⟨0, List.mem_range.2 (by omega), by simp⟩
    · intro i u hu
      have hi : i < len := by
        have := (List.getElem?_eq_some_iff.1 hu).1
        rw [List.length_map, htl] at this
        exact this
      have hci := hcell i (by omega)
      have e1 : (⟨b, off, none⟩ : Addr).add i = ⟨b, off + i, none⟩ := by unfold Addr.add; split <;> simp_all
      rw [e1] at hci
      rw [hci, ← hu]
      simp [hi, show i < zs.length by omega, iv]
theorem rd_ints {e : TypeId} (ht : P.underlying t = some (.slice e)) (he : P.underlying e = some (.int .i64)) (hc : P.cellsOf e = 1) (hv : Value.okWide P w r b0 t v)
    (h : DataW.Trod enc P w base spare held t v d ps) {B : Nat} (hlt : ∀ p ∈ ps, p.block < B) :
    ∃ (A : Option Addr) (c : Nat) (xs : List Int), v = .slice A xs.length c ∧ xs.length ≤ c ∧ c ≤ maxLen ∧ Sl w B A xs.length (xs.map iv) := by
  obtain ⟨A, l, c, rfl⟩ := okWide_slice ht hv
  obtain ⟨fuel, hf⟩ := h
  exact rdf_ints ht he hc hf hlt

/-- The four cells of a digest. -/
theorem rdf_dig {e : TypeId} {fuel : Nat} {cs : List Value} {x : DataW H × List MemPlace} (ht : P.underlying t = some (.array 4 e)) (he : P.underlying e = some (.int .u32)) (hc : P.cellsOf e = 1) (hl : cs.length = 4)
    (h : DataW.trod enc P w base spare held fuel t cs = some x) : ∃ f : Nat → UInt32, cs = [wv (f 0), wv (f 1), wv (f 2), wv (f 3)] := by
  match cs, hl with
  | [c0, c1, c2, c3], _ =>
    obtain ⟨y0, y1, y2, y3, n, _, h0, h1, h2, h3⟩ := trod_array4 ht hc h
    obtain ⟨a0, ea0, _, wa0⟩ := DataW.trod_int he h0
    obtain ⟨a1, ea1, _, wa1⟩ := DataW.trod_int he h1
    obtain ⟨a2, ea2, _, wa2⟩ := DataW.trod_int he h2
    obtain ⟨a3, ea3, _, wa3⟩ := DataW.trod_int he h3
    obtain ⟨x0, rfl⟩ := u32_of_wf wa0
    obtain ⟨x1, rfl⟩ := u32_of_wf wa1
    obtain ⟨x2, rfl⟩ := u32_of_wf wa2
    obtain ⟨x3, rfl⟩ := u32_of_wf wa3
    refine ⟨fun i => match i with | 0 => x0 | 1 => x1 | 2 => x2 | _ => x3, ?_⟩
    rw [(List.cons.inj ea0).1, (List.cons.inj ea1).1, (List.cons.inj ea2).1, (List.cons.inj ea3).1]
    rfl
/-- A slice of digests, opened. -/
theorem rdf_digs {e q : TypeId} {fuel : Nat} {x : DataW H × List MemPlace} (ht : P.underlying t = some (.slice e)) (he : P.underlying e = some (.array 4 q)) (hq : P.underlying q = some (.int .u32)) (hcq : P.cellsOf q = 1) (hc : P.cellsOf e = 4)
    (h : DataW.trod enc P w base spare held fuel t [v] = some x) {B : Nat} (hlt : ∀ p ∈ x.2, p.block < B) :
    ∃ (A : Option Addr) (c : Nat) (ds : List (Nat → UInt32)), v = .slice A ds.length c ∧ ds.length ≤ c ∧ c ≤ maxLen ∧ Sd w B A ds := by
  rcases open_slice ht h with ⟨hcs, _⟩ | ⟨a, len, cap, m, n, D, Pl, hcs, _, hl, hm, hmm, hx, hel⟩
  · simp at hcs
    subst hcs
    exact ⟨none, 0, [], rfl, Nat.le_refl _, by unfold maxLen; omega, fun h0 => absurd h0 (by decide)⟩
  · simp at hcs
    subst hcs
    have hlm : len ≤ m := by rw [hmm]; split <;> omega
    have hf : ∀ i, i < len → ∃ f : Nat → UInt32, ∀ k, k < 4 → w.cell? (a.add (i * 4 + k)) = some (wv (f k)) := by
      intro i hi
      obtain ⟨cs', h1, h2⟩ := hel i (by omega)
      rw [hc] at h1
      obtain ⟨_, hcl, hcc⟩ := World.cells?_some h1
      obtain ⟨f, rfl⟩ := rdf_dig he hq hcq hcl h2
      refine ⟨f, fun k hk => ?_⟩
      have e := hcc k hk
      rw [Addr.add_add] at e
      rw [e]
      match k, hk with
      | 0, _ => rfl
      | 1, _ => rfl
      | 2, _ => rfl
      | 3, _ => rfl
    obtain ⟨F, hF⟩ : ∃ F : Nat → Nat → UInt32, ∀ i, i < len → ∀ k, k < 4 → w.cell? (a.add (i * 4 + k)) = some (wv (F i k)) :=
      ⟨fun i => if hi : i < len then (hf i hi).choose else fun _ => 0, fun i hi k hk => by
        have e := (hf i hi).choose_spec k hk
        simp only [dif_pos hi]
        exact e⟩
    refine ⟨some a, cap, (List.range len).map F, by simp, by simpa using hl, hm, fun h0 => ?_⟩
    rw [List.length_map, List.length_range] at h0
    obtain ⟨f0, hf0⟩ := hf 0 h0
    have h00 := hf0 0 (by decide)
    obtain ⟨b, off, spot⟩ := a
    have hspot : spot = none := by simpa [Addr.add] using World.cell?_spot h00
    subst hspot
    refine ⟨b, off, rfl, ?_, fun j hj i hi => ?_⟩
    · refine hlt (.cell b off) ?_
      rw [hx]
      refine List.mem_append_left _ ?_
      simp only [MemPlace.row]
      exact List.mem_map.2 ⟨0, List.mem_range.2 (by rw [hc]; omega), by simp⟩
    · have hjl : j < len := by simpa using hj
      have hs := hF j hjl i hi
      have e1 : (⟨b, off, none⟩ : Addr).add (j * 4 + i) = ⟨b, off + 4 * j + i, none⟩ := by
        have e0 : (⟨b, off, none⟩ : Addr).add (j * 4 + i) = ⟨b, off + (j * 4 + i), none⟩ := by unfold Addr.add; split <;> simp_all
        rw [e0, show off + (j * 4 + i) = off + 4 * j + i by omega]
      rw [e1] at hs
      rw [hs]
      have e9 : ((List.range len).map F)[j] = F j := by rw [List.getElem_map, List.getElem_range]
      rw [e9]
      rfl
theorem rd_digs {e q : TypeId} (ht : P.underlying t = some (.slice e)) (he : P.underlying e = some (.array 4 q)) (hq : P.underlying q = some (.int .u32)) (hcq : P.cellsOf q = 1) (hc : P.cellsOf e = 4) (hv : Value.okWide P w r b0 t v)
    (h : DataW.Trod enc P w base spare held t v d ps) {B : Nat} (hlt : ∀ p ∈ ps, p.block < B) :
    ∃ (A : Option Addr) (c : Nat) (ds : List (Nat → UInt32)), v = .slice A ds.length c ∧ ds.length ≤ c ∧ c ≤ maxLen ∧ Sd w B A ds := by
  obtain ⟨A, l, c, rfl⟩ := okWide_slice ht hv
  obtain ⟨fuel, hf⟩ := h
  exact rdf_digs ht he hq hcq hc hf hlt

theorem array8 {α : Type} {cs : Array α} (h : cs.size = 8) : ∃ c0 c1 c2 c3 c4 c5 c6 c7, cs = #[c0, c1, c2, c3, c4, c5, c6, c7] := by
  obtain ⟨l⟩ := cs
  match l, h with
  | [c0, c1, c2, c3, c4, c5, c6, c7], _ => exact ⟨c0, c1, c2, c3, c4, c5, c6, c7, rfl⟩
/-- A recipe, opened. -/
theorem rd_recipe {f0 f1 f2 f3 f4 : Field} {e2 e3 q : TypeId} (hs : P.underlying t = some (.struct #[f0, f1, f2, f3, f4])) (hC : P.cellsOf t = 8)
    (o0 : f0.offset = 0) (o1 : f1.offset = 1) (o2 : f2.offset = 5) (o3 : f3.offset = 6) (o4 : f4.offset = 7) (c0 : P.cellsOf f0.type = 1) (c1 : P.cellsOf f1.type = 4) (c2 : P.cellsOf f2.type = 1) (c3 : P.cellsOf f3.type = 1) (c4 : P.cellsOf f4.type = 1)
    (h0 : P.underlying f0.type = some (.int .i64)) (h1 : P.underlying f1.type = some (.array 4 q)) (h2 : P.underlying f2.type = some (.slice e2)) (h3 : P.underlying f3.type = some (.slice e3)) (h4 : P.underlying f4.type = some (.int .i64))
    (he2 : P.underlying e2 = some (.int .i64)) (hc2 : P.cellsOf e2 = 1) (he3 : P.underlying e3 = some (.array 4 q)) (hc3 : P.cellsOf e3 = 4) (hq : P.underlying q = some (.int .u32)) (hcq : P.cellsOf q = 1)
    (hv : Value.okWide P w r b0 t v) (h : DataW.Trod enc P w base spare held t v d ps) {B : Nat} (hlt : ∀ p ∈ ps, p.block < B) :
    ∃ (tl : Int) (I : Nat → UInt32) (A : Option Addr) (qs : List Int) (c : Nat) (D : Option Addr) (ds : List (Nat → UInt32)) (e : Nat) (f : Int),
      v = .agg #[.int .i64 tl, .int .u32 (I 0).toNat, .int .u32 (I 1).toNat, .int .u32 (I 2).toNat, .int .u32 (I 3).toNat, .slice A qs.length c, .slice D ds.length e, .int .i64 f] ∧ Sl w B A qs.length (qs.map iv) ∧ Sd w B D ds := by
  obtain ⟨cs, rfl, hsz⟩ := okWide_struct hs hv
  obtain ⟨v0, v1, v2, v3, v4, v5, v6, v7, rfl⟩ := array8 (hsz.trans hC)
  obtain ⟨fuel, hf⟩ := h
  obtain ⟨xs, n, _, hx, _, hlen, hfd⟩ := DataW.trod_struct hs hf
  simp only [Prod.mk.injEq] at hx
  obtain ⟨_, hx2⟩ := hx
  match xs, hlen with
  | [y0, y1, y2, y3, y4], _ =>
    have k0 := hfd 0 f0 rfl
    have k1 := hfd 1 f1 rfl
    have k2 := hfd 2 f2 rfl
    have k3 := hfd 3 f3 rfl
    have k4 := hfd 4 f4 rfl
    simp [o0, c0, Value.cells] at k0
    simp [o1, c1, Value.cells] at k1
    simp [o2, c2, Value.cells] at k2
    simp [o3, c3, Value.cells] at k3
    simp [o4, c4, Value.cells] at k4
    have hp2 : ∀ p ∈ y2.2, p.block < B := fun p hp => hlt p (by rw [hx2]; simp [hp])
    have hp3 : ∀ p ∈ y3.2, p.block < B := fun p hp => hlt p (by rw [hx2]; simp [hp])
    obtain ⟨tl, et, _, _⟩ := DataW.trod_int h0 k0
    obtain ⟨f, ef, _, _⟩ := DataW.trod_int h4 k4
    obtain ⟨I, eI⟩ := rdf_dig h1 hq hcq rfl k1
    obtain ⟨A, c, qs, eA, _, _, hS⟩ := rdf_ints h2 he2 hc2 k2 hp2
    obtain ⟨D, e, ds, eD, _, _, hD⟩ := rdf_digs h3 he3 hq hcq hc3 k3 hp3
    injection et with et _
    injection ef with ef _
    injection eI with i0 eI
    injection eI with i1 eI
    injection eI with i2 eI
    injection eI with i3 _
    subst et ef i0 i1 i2 i3 eA eD
    exact ⟨tl, I, A, qs, c, D, ds, e, f, rfl, hS, hD⟩
/-- Two bytes. -/
theorem rd_u8x2 {e : TypeId} (hu : P.underlying t = some (.array 2 e)) (he : P.underlying e = some (.int .u8)) (hc : P.cellsOf e = 1) (hC : P.cellsOf t = 2)
    (hv : Value.okWide P w r b0 t v) (h : DataW.Trod enc P w base spare held t v d ps) : ∃ x y : UInt8, v = .agg #[.int .u8 x.toNat, .int .u8 y.toNat] := by
  simp only [Value.okWide, hu] at hv
  obtain ⟨cs, rfl, hn, _⟩ := hv
  rw [hC] at hn
  obtain ⟨c0, c1, rfl⟩ := array2 hn
  obtain ⟨fuel, hf⟩ := h
  obtain ⟨xs, m, _, _, _, hlen, hfd⟩ := DataW.trod_array hu hf
  match xs, hlen with
  | [y0, y1], _ =>
    have k0 := hfd 0 (by decide)
    have k1 := hfd 1 (by decide)
    simp [hc, Value.cells] at k0 k1
    obtain ⟨a0, ea0, _, wa0⟩ := DataW.trod_int he k0
    obtain ⟨a1, ea1, _, wa1⟩ := DataW.trod_int he k1
    obtain ⟨x, rfl⟩ := u8_of_wf wa0
    obtain ⟨y, rfl⟩ := u8_of_wf wa1
    injection ea0 with ea0 _
    injection ea1 with ea1 _
    subst ea0 ea1
    exact ⟨x, y, rfl⟩
end
end Go.Proofs.YtdkkomcokefkhaaDoor
