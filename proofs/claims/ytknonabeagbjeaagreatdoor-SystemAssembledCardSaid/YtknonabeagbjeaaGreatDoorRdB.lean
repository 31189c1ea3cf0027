/- How the arguments of the laws read: each kind of argument, opened into plain Lean data. -/
/- A cell that is known lies in a block that is there. -/
import Derived.ProofKit
import Derived.OpenShut
import Derived.ShutString
import Derived.ChangeOld
import Derived.Lib.SmallJoins
import Derived.Lib.LaidTab
import Derived.Test.YtknonabeagbjeaaGreatDoorLib
namespace Go.Proofs.YtknonabeagbjeaaGreatDoor
open Go.ChangeShapes Go.WideShapes Go.ChangeAt Go.RowKit
open Go.ChangeMaps (open_string shut_string)

section
variable {H : Type} {enc : TypeId × Value → H} {P : Program} {w : World} {r : Reach} {b0 : Nat} {t : TypeId} {v : Value} {d : DataW H} {ps : List MemPlace} {base : Nat} {spare : Nat → Bool} {held : Bool}

theorem u32_of_wf {n : Int} (h : (Lit.int .u32 n).wf = true) : ∃ x : UInt32, n = x.toNat := by
  have hb := bounds_u32 h
  refine ⟨UInt32.ofNat n.toNat, ?_⟩
  rw [UInt32.toNat_ofNat']
  omega
theorem u8_of_wf {n : Int} (h : (Lit.int .u8 n).wf = true) : ∃ x : UInt8, n = x.toNat := by
  have hb := bounds_u8 h
  refine ⟨UInt8.ofNat n.toNat, ?_⟩
  rw [UInt8.toNat_ofNat']
  omega
theorem rd_u32 (ht : P.underlying t = some (.int .u32)) (hv : Value.okWide P w r b0 t v) (h : DataW.Trod enc P w base spare held t v d ps) : ∃ x : UInt32, v = .int .u32 x.toNat := by
  obtain ⟨n, rfl, _, _, hw⟩ := open_int ht hv h
  obtain ⟨x, rfl⟩ := u32_of_wf hw
  exact ⟨x, rfl⟩
theorem rd_u8 (ht : P.underlying t = some (.int .u8)) (hv : Value.okWide P w r b0 t v) (h : DataW.Trod enc P w base spare held t v d ps) : ∃ x : UInt8, v = .int .u8 x.toNat := by
  obtain ⟨n, rfl, _, _, hw⟩ := open_int ht hv h
  obtain ⟨x, rfl⟩ := u8_of_wf hw
  exact ⟨x, rfl⟩
def Is64 (x : Int) : Prop := -9223372036854775808 ≤ x ∧ x ≤ 9223372036854775807
theorem rd_int (ht : P.underlying t = some (.int .i64)) (hv : Value.okWide P w r b0 t v) (h : DataW.Trod enc P w base spare held t v d ps) : ∃ x : Int, v = .int .i64 x ∧ Is64 x := by
  obtain ⟨n, rfl, _, _, hw⟩ := open_int ht hv h
  exact ⟨n, rfl, bounds_i64 hw⟩
theorem rd_str (ht : P.underlying t = some .string) (hv : Value.okWide P w r b0 t v) (h : DataW.Trod enc P w base spare held t v d ps) : ∃ s : ByteArray, v = .string s ∧ s.size ≤ maxLen := by
  obtain ⟨n, rfl, _, _, hw⟩ := open_string ht hv h
  exact ⟨n, rfl, hw⟩
theorem words_of_wf (zs : List Int) (h : ∀ n ∈ zs, (Lit.int .u32 n).wf = true) : ∃ xs : List UInt32, zs = xs.map fun x => (x.toNat : Int) := by
  induction zs with
  | nil => exact ⟨[], rfl⟩
  | cons n zs ih =>
    obtain ⟨xs, hx⟩ := ih (fun m hm => h m (List.mem_cons_of_mem _ hm))
    obtain ⟨x, hx1⟩ := u32_of_wf (h n (List.mem_cons_self ..))
    exact ⟨x :: xs, by rw [List.map_cons, ← hx, ← hx1]⟩

/-- A slice of words, opened. -/
theorem rdf_words {e : TypeId} {fuel : Nat} {x : DataW H × List MemPlace} (ht : P.underlying t = some (.slice e)) (he : P.underlying e = some (.int .u32)) (hc : P.cellsOf e = 1)
    (h : DataW.trod enc P w base spare held fuel t [v] = some x) {B : Nat} (hlt : ∀ p ∈ x.2, p.block < B) :
    ∃ (A : Option Addr) (c : Nat) (xs : List UInt32), v = .slice A xs.length c ∧ xs.length ≤ c ∧ c ≤ maxLen ∧ Sl w B A xs.length (xs.map wv) := by
  rcases open_ints ht he hc h with ⟨hcs, _⟩ | ⟨a, len, cap, zs, hcs, _, hl, hm, hz, hx, hcell, hwz⟩
  · simp at hcs
    subst hcs
    exact ⟨none, 0, [], rfl, Nat.le_refl _, by unfold maxLen; omega, Sl.nil⟩
  · simp at hcs
    subst hcs
    obtain ⟨ys, rfl⟩ := words_of_wf zs hwz
    have hlen : len ≤ ys.length := by
      rw [List.length_map] at hz
      split at hz <;> omega
    have htl : (ys.take len).length = len := by rw [List.length_take]; omega
    refine ⟨some a, cap, ys.take len, by rw [htl], by omega, hm, by rw [htl]; simp; omega, fun hn => ?_⟩
    rw [htl] at hn
    have h0 := hcell 0 (by rw [List.length_map]; omega)
    obtain ⟨b, off, spot⟩ := a
    have hspot : spot = none := by simpa [Addr.add] using World.cell?_spot h0
    subst hspot
    refine ⟨b, off, rfl, ?_, ?_⟩
    · refine hlt (.cell b off) ?_
      rw [hx]
      simp only [MemPlace.row]
      exact List.mem_map.2 ⟨0, List.mem_range.2 (by rw [List.length_map]; omega), by simp⟩
    · intro i u hu
      have hi : i < len := by
        have := (List.getElem?_eq_some_iff.1 hu).1
        rw [List.length_map, htl] at this
        exact this
      have hci := hcell i (by rw [List.length_map]; omega)
      have e1 : (⟨b, off, none⟩ : Addr).add i = ⟨b, off + i, none⟩ := by unfold Addr.add; split <;> simp_all
      rw [e1] at hci
      rw [hci, ← hu]
      simp [hi, show i < ys.length by omega, wv]
theorem rd_words {e : TypeId} (ht : P.underlying t = some (.slice e)) (he : P.underlying e = some (.int .u32)) (hc : P.cellsOf e = 1) (hv : Value.okWide P w r b0 t v)
    (h : DataW.Trod enc P w base spare held t v d ps) {B : Nat} (hlt : ∀ p ∈ ps, p.block < B) :
    ∃ (A : Option Addr) (c : Nat) (xs : List UInt32), v = .slice A xs.length c ∧ xs.length ≤ c ∧ c ≤ maxLen ∧ Sl w B A xs.length (xs.map wv) := by
  obtain ⟨A, l, c, rfl⟩ := okWide_slice ht hv
  obtain ⟨fuel, hf⟩ := h
  exact rdf_words ht he hc hf hlt
end
end Go.Proofs.YtknonabeagbjeaaGreatDoor
namespace Go.Proofs.YtknonabeagbjeaaGreatDoor
theorem cell_lt {w : World} {a : Addr} {v : Value} (h : w.cell? a = some v) : a.block < w.heap.size := by
  unfold World.cell? at h
  cases hh : w.heap[a.block]? with
  | none => rw [hh] at h; simp at h
  | some o => exact (Array.getElem?_eq_some_iff.1 hh).1
end Go.Proofs.YtknonabeagbjeaaGreatDoor
