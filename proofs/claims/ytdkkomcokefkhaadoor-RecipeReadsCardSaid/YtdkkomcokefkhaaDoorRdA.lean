/- An array of words among a law's inputs, opened. -/
import Derived.Test.YtdkkomcokefkhaaDoorRd
import Derived.Test.YtdkkomcokefkhaaDoorDg
import Derived.Lib.LaidTab
namespace Go.Proofs.YtdkkomcokefkhaaDoor
open Go.RowKit Go.ChangeShapes

section
variable {H : Type} {enc : TypeId × Value → H} {P : Program} {w : World} {base : Nat} {spare : Nat → Bool} {held : Bool} {r : Reach} {b0 : Nat} {t : TypeId} {v : Value} {d : DataW H} {ps : List MemPlace}
theorem rd_arr {e : TypeId} {n : Nat} (hu : P.underlying t = some (.array n e)) (he : P.underlying e = some (.int .u32)) (hc : P.cellsOf e = 1) (hC : P.cellsOf t = n)
    (hv : Value.okWide P w r b0 t v) (h : DataW.Trod enc P w base spare held t v d ps) : ∃ f : Nat → UInt32, v = .agg ((List.range n).map fun i => wv (f i)).toArray := by
  simp only [Value.okWide, hu] at hv
  obtain ⟨cs, rfl, hn, _⟩ := hv
  rw [hC] at hn
  obtain ⟨fuel, hf⟩ := h
  cases fuel with
  | zero => simp [DataW.trod] at hf
  | succ m =>
    rw [DataW.trod_step] at hf
    unfold DataW.trodStep at hf
    simp only [hu, Value.cells] at hf
    rw [if_pos (by rw [hC]; simpa using hn)] at hf
    simp only [Option.map_eq_some_iff] at hf
    obtain ⟨ys, hy, _⟩ := hf
    have hcell : ∀ i, i < n → ∃ x : UInt32, cs[i]? = some (wv x) := by
      intro i hi
      obtain ⟨b, _, hb⟩ := Lib.mapM_at hy i i (by simp [hi])
      obtain ⟨a, ea, _, wa⟩ := DataW.trod_int he hb
      obtain ⟨x, rfl⟩ := u32_of_wf wa
      refine ⟨x, ?_⟩
      rw [hc, Nat.mul_one] at ea
      have := congrArg (·[0]?) ea
      simpa [List.getElem?_take, List.getElem?_drop, wv] using this
    refine ⟨fun i => if hi : i < n then (hcell i hi).choose else 0, ?_⟩
    congr 1
    apply Array.ext
    · simp [hn]
    · intro i h1 h2
      have hi : i < n := by rw [← hn]; exact h1
      have hs := (hcell i hi).choose_spec
      have hs2 := (Array.getElem?_eq_getElem h1).symm.trans hs
      simp only [List.getElem_toArray, List.getElem_map, List.getElem_range, dif_pos hi]
      exact Option.some.inj hs2
theorem rd_arr8 {e : TypeId} (hu : P.underlying t = some (.array 8 e)) (he : P.underlying e = some (.int .u32)) (hc : P.cellsOf e = 1) (hC : P.cellsOf t = 8)
    (hv : Value.okWide P w r b0 t v) (h : DataW.Trod enc P w base spare held t v d ps) : ∃ f : Nat → UInt32, v = .agg (stv f) := rd_arr hu he hc hC hv h
theorem rd_arr4 {e : TypeId} (hu : P.underlying t = some (.array 4 e)) (he : P.underlying e = some (.int .u32)) (hc : P.cellsOf e = 1) (hC : P.cellsOf t = 4)
    (hv : Value.okWide P w r b0 t v) (h : DataW.Trod enc P w base spare held t v d ps) : ∃ f : Nat → UInt32, v = .agg #[wv (f 0), wv (f 1), wv (f 2), wv (f 3)] := rd_arr hu he hc hC hv h
theorem cell_lt {w : World} {a : Addr} {v : Value} (h : w.cell? a = some v) : a.block < w.heap.size := by
  unfold World.cell? at h
  cases hh : w.heap[a.block]? with
  | none => rw [hh] at h; simp at h
  | some o => exact (Array.getElem?_eq_some_iff.1 hh).1
end
end Go.Proofs.YtdkkomcokefkhaaDoor
