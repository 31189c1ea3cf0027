/- Layer 37, plain: which words are a recipe's, by their places. No program in sight. -/
import Derived.Test.YtdkkomcokefkhaaDoorRcP
namespace Go.Proofs.YtdkkomcokefkhaaDoor
open Go.RowKit

def lg (l : List UInt32) (k : Nat) : UInt32 := l.getD k 0
theorem lg_get {l : List UInt32} {k : Nat} (h : k < l.length) : lg l k = l[k] := by
  unfold lg; rw [List.getD_eq_getElem?_getD, List.getElem?_eq_getElem h]; rfl
/-- The passes, the inputs that the words tell. -/
def psW (l : List UInt32) (n : Nat) : List Int := (List.range n).map fun i => ((lg l (7 + i)).toNat : Int)
def dsW (l : List UInt32) (n m : Nat) : List (Nat → UInt32) := (List.range m).map fun j i => lg l (8 + n + 4 * j + i)
def imW (l : List UInt32) : Nat → UInt32 := fun i => lg l (1 + i)
theorem psW_len (l : List UInt32) (n : Nat) : (psW l n).length = n := by unfold psW; rw [List.length_map, List.length_range]
theorem dsW_len (l : List UInt32) (n m : Nat) : (dsW l n m).length = m := by unfold dsW; rw [List.length_map, List.length_range]
theorem psW_snoc (l : List UInt32) (k : Nat) : psW l (k + 1) = psW l k ++ [((lg l (7 + k)).toNat : Int)] := by
  unfold psW; rw [List.range_succ, List.map_append]; rfl
theorem dsW_snoc (l : List UInt32) (n k : Nat) : dsW l n (k + 1) = dsW l n k ++ [fun i => lg l (8 + n + 4 * k + i)] := by
  unfold dsW; rw [List.range_succ, List.map_append]; rfl

theorem app_at {a b : List UInt32} {k : Nat} : lg (a ++ b) (a.length + k) = lg b k := by
  unfold lg
  rw [List.getD_eq_getElem?_getD, List.getD_eq_getElem?_getD, List.getElem?_append_right (Nat.le_add_right _ _), Nat.add_sub_cancel_left]
theorem app_lt {a b : List UInt32} {k : Nat} (h : k < a.length) : lg (a ++ b) k = lg a k := by
  unfold lg
  rw [List.getD_eq_getElem?_getD, List.getD_eq_getElem?_getD, List.getElem?_append_left h]
theorem flat_lg (ds : List (Nat → UInt32)) : ∀ (j : Nat) (h : j < ds.length) (i : Nat), i < 4 → lg (ds.flatMap dgL) (4 * j + i) = ds[j] i := by
  induction ds with
  | nil => intro j h; cases h
  | cons d ds ih =>
    intro j h i hi
    rw [List.flatMap_cons]
    cases j with
    | zero =>
      rw [app_lt (by show 4 * 0 + i < 4; omega)]
      match i, hi with
      | 0, _ => rfl
      | 1, _ => rfl
      | 2, _ => rfl
      | 3, _ => rfl
    | succ j =>
      have e : (dgL d).length = 4 := rfl
      rw [show 4 * (j + 1) + i = (dgL d).length + (4 * j + i) by rw [e]; omega, app_at]
      exact ih j (by simpa using h) i hi

section
variable {t f : Int} {I : Nat → UInt32} {ps : List Int} {ds : List (Nat → UInt32)}
theorem wr_head (k : Nat) (h : k < 7) : lg (wordsR t I ps ds f) k = lg (headR t I ps.length f) k := by
  unfold wordsR
  rw [List.append_assoc, List.append_assoc, app_lt (by show k < 7; exact h)]
theorem wr_pass (i : Nat) (h : i < ps.length) : lg (wordsR t I ps ds f) (7 + i) = wI ps[i] := by
  unfold wordsR
  rw [List.append_assoc, List.append_assoc]
  have e : (headR t I ps.length f).length = 7 := rfl
  rw [← e, app_at, app_lt (by rw [List.length_map]; exact h), lg_get (by rw [List.length_map]; exact h), List.getElem_map]
theorem wr_count : lg (wordsR t I ps ds f) (7 + ps.length) = UInt32.ofNat ds.length := by
  unfold wordsR
  rw [List.append_assoc, List.append_assoc]
  have e : (headR t I ps.length f).length = 7 := rfl
  have e2 : (ps.map wI).length + 0 = ps.length := by rw [List.length_map]; rfl
  rw [← e, app_at, ← e2, app_at]
  rfl
theorem wr_input (j : Nat) (h : j < ds.length) (i : Nat) (hi : i < 4) : lg (wordsR t I ps ds f) (8 + ps.length + 4 * j + i) = ds[j] i := by
  unfold wordsR
  have e : (headR t I ps.length f ++ ps.map wI ++ [UInt32.ofNat ds.length]).length = 8 + ps.length := by
    rw [List.length_append, List.length_append, List.length_map]
    show 7 + ps.length + 1 = _
    omega
  rw [← e, Nat.add_assoc, app_at]
  exact flat_lg ds j h i hi
end

theorem wI_self (x : UInt32) : wI (x.toNat : Int) = x := by unfold wI; rw [Int.toNat_natCast, UInt32.ofNat_toNat]
theorem ofNat_self {x : UInt32} {n : Nat} (h : x.toNat = n) : UInt32.ofNat n = x := by rw [← h, UInt32.ofNat_toNat]
theorem ext_lg {a b : List UInt32} (hl : a.length = b.length) (h : ∀ k, k < a.length → lg a k = lg b k) : a = b := by
  apply List.ext_getElem hl
  intro k h1 h2
  have e := h k h1
  rw [lg_get h1, lg_get h2] at e
  exact e
/-- Words of the right length are those of the recipe that they tell. -/
theorem words_of {l : List UInt32} {n m : Nat} (hl : l.length = 8 + n + 4 * m) (hn : (lg l 6).toNat = n) (hm : (lg l (7 + n)).toNat = m) :
    wordsR (lg l 0).toNat (imW l) (psW l n) (dsW l n m) (lg l 5).toNat = l := by
  apply ext_lg
  · rw [wordsR_len, psW_len, dsW_len, hl]
  · intro k hk
    rw [wordsR_len, psW_len, dsW_len] at hk
    by_cases h7 : k < 7
    · rw [wr_head k h7, psW_len]
      match k, h7 with
      | 0, _ => exact wI_self _
      | 1, _ => rfl
      | 2, _ => rfl
      | 3, _ => rfl
      | 4, _ => rfl
      | 5, _ => exact wI_self _
      | 6, _ => exact ofNat_self hn
    · by_cases hp : k < 7 + n
      · have e := wr_pass (t := (lg l 0).toNat) (I := imW l) (ps := psW l n) (ds := dsW l n m) (f := (lg l 5).toNat) (k - 7) (by rw [psW_len]; omega)
        rw [show 7 + (k - 7) = k by omega] at e
        rw [e]
        unfold psW
        rw [List.getElem_map, List.getElem_range, wI_self, show 7 + (k - 7) = k by omega]
      · by_cases hc : k = 7 + n
        · have e := wr_count (t := (lg l 0).toNat) (I := imW l) (ps := psW l n) (ds := dsW l n m) (f := (lg l 5).toNat)
          rw [psW_len, dsW_len] at e
          rw [hc, e]
          exact ofNat_self hm
        · obtain ⟨j, i, hi, hj, he⟩ : ∃ j i, i < 4 ∧ j < m ∧ k = 8 + n + 4 * j + i := ⟨(k - (8 + n)) / 4, (k - (8 + n)) % 4, by omega, by omega, by omega⟩
          have e := wr_input (t := (lg l 0).toNat) (I := imW l) (ps := psW l n) (ds := dsW l n m) (f := (lg l 5).toNat) j (by rw [dsW_len]; exact hj) i hi
          rw [psW_len] at e
          rw [he, e]
          unfold dsW
          rw [List.getElem_map, List.getElem_range]
/-- What the words of a recipe that may be keep within; and what they tell is that recipe. -/
theorem words_in {l : List UInt32} {t f : Int} {I : Nat → UInt32} {ps : List Int} {ds : List (Nat → UInt32)} (hr : rightR t I ps ds.length f = true) (h : wordsR t I ps ds f = l) :
    8 ≤ l.length ∧ (lg l 0).toNat ≤ 6 ∧ (lg l 5).toNat ≤ 100000000 ∧ (lg l 6).toNat ≤ 20 ∧ 8 + (lg l 6).toNat ≤ l.length ∧ (∀ i, i < (lg l 6).toNat → (lg l (7 + i)).toNat ≤ 4) ∧
      (lg l (7 + (lg l 6).toNat)).toNat ≤ 20 ∧ l.length = 8 + (lg l 6).toNat + 4 * (lg l (7 + (lg l 6).toNat)).toNat ∧
      rightR (lg l 0).toNat (imW l) (psW l (lg l 6).toNat) (lg l (7 + (lg l 6).toNat)).toNat (lg l 5).toNat = true := by
  obtain ⟨⟨t1, t6⟩, ⟨f0, f8⟩, hp20, hpa, hm20⟩ := rr_in hr
  subst h
  have h0 : lg (wordsR t I ps ds f) 0 = wI t := wr_head 0 (by decide)
  have h5 : lg (wordsR t I ps ds f) 5 = wI f := wr_head 5 (by decide)
  have h6 : lg (wordsR t I ps ds f) 6 = UInt32.ofNat ps.length := wr_head 6 (by decide)
  have e6 : (lg (wordsR t I ps ds f) 6).toNat = ps.length := by rw [h6, UInt32.toNat_ofNat']; omega
  have e7 : (lg (wordsR t I ps ds f) (7 + ps.length)).toNat = ds.length := by rw [wr_count, UInt32.toNat_ofNat']; omega
  have e0 : ((lg (wordsR t I ps ds f) 0).toNat : Int) = t := by rw [h0]; exact wI_val (by omega) (by omega)
  have e5 : ((lg (wordsR t I ps ds f) 5).toNat : Int) = f := by rw [h5]; exact wI_val (by omega) (by omega)
  have ep : ∀ i (h : i < ps.length), ((lg (wordsR t I ps ds f) (7 + i)).toNat : Int) = ps[i] := by
    intro i h
    have := hpa ps[i] (List.getElem_mem h)
    rw [wr_pass i h]; exact wI_val (by omega) (by omega)
  have hps : psW (wordsR t I ps ds f) ps.length = ps := by
    apply List.ext_getElem (psW_len _ _)
    intro i h1 h2
    simp only [psW, List.getElem_map, List.getElem_range]
    exact ep i h2
  rw [e6, e7, e0, e5, hps]
  have hI : rightR t (imW (wordsR t I ps ds f)) ps ds.length f = rightR t I ps ds.length f := by
    have e1 : imW (wordsR t I ps ds f) 0 = I 0 := wr_head 1 (by decide)
    have e2 : imW (wordsR t I ps ds f) 1 = I 1 := wr_head 2 (by decide)
    have e3 : imW (wordsR t I ps ds f) 2 = I 2 := wr_head 3 (by decide)
    have e4 : imW (wordsR t I ps ds f) 3 = I 3 := wr_head 4 (by decide)
    unfold rightR imgZ eqD
    rw [e1, e2, e3, e4]
  rw [hI, wordsR_len]
  refine ⟨by omega, by omega, by omega, hp20, by omega, fun i hi => ?_, hm20, by omega, hr⟩
  have := hpa ps[i] (List.getElem_mem hi)
  have := ep i hi
  omega
end Go.Proofs.YtdkkomcokefkhaaDoor
