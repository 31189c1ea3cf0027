/- Layer 11: the set of targets as a map of the call's own: what it reads as, key by key. -/
import Derived.Test.YtneebohaanjejaaDoorLsB
import Derived.Lib.OthersKept
import Derived.Maps.Own
import Derived.Maps.OwnOps
import Derived.Maps.OwnSet
import Derived.Maps.Views
import Derived.Lib.SlKeysI
namespace Go.Proofs.YtneebohaanjejaaDoor
open Go.RowKit Go.Maps

/-- The map as it is read holds just the keys of f, each true. -/
def SetD (D : DataW Unit) (f : Int → Bool) : Prop := IsMap D ∧ ∀ x : Int, has D (.int .i64 x) = f x ∧ D.atKey (.int .i64 x) (.lit (.bool false)) = .lit (.bool (f x))
theorem SetD.none : SetD (.map []) (fun _ => false) := ⟨isMap_empty, fun _ => ⟨rfl, rfl⟩⟩
theorem SetD.put {D : DataW Unit} {f : Int → Bool} (h : SetD D f) (k : Int) : SetD (D.put (.int .i64 k) (.lit (.bool true))) (fun x => f x || decide (x = k)) := by
  refine ⟨h.1.put _ _, fun x => ?_⟩
  have hkl : WideAt.IsKeyLit (.int .i64 x) := trivial
  show has _ _ = (f x || decide (x = k)) ∧ _ = DataW.lit (Lit.bool (f x || decide (x = k)))
  by_cases e : x = k
  · subst e
    rw [has_put_same h.1 hkl, atKey_put_same h.1 hkl, decide_eq_true rfl, Bool.or_true]
    exact ⟨rfl, rfl⟩
  · have hne : (Lit.int .i64 x) ≠ (Lit.int .i64 k) := fun e2 => e (by injection e2)
    rw [has_put_other hne, atKey_put_other hne, decide_eq_false e, Bool.or_false]
    exact h.2 x
theorem SetD.congr {D : DataW Unit} {f g : Int → Bool} (h : SetD D f) (e : ∀ x, f x = g x) : SetD D g := ⟨h.1, fun x => by rw [← e x]; exact h.2 x⟩
/-- The places to which the first j words lead, inside the code. -/
def setB (code : List UInt32) (j : Nat) (x : Int) : Bool := (code.take j).any (fun w => jmpB w && decide (cD w = x)) && decide (x < (code.length : Int))
theorem setB_zero (code : List UInt32) (x : Int) : setB code 0 x = false := rfl
theorem setB_skip {code : List UInt32} {j : Nat} (hj : j < code.length) (h : jmpB code[j] = false ∨ ¬ cD code[j] < (code.length : Int)) (x : Int) : setB code (j + 1) x = setB code j x := by
  unfold setB
  rw [List.take_succ_eq_append_getElem hj, List.any_append]
  rcases h with h | h
  · rw [List.any_cons, h]
    simp
  · by_cases hx : x < (code.length : Int)
    · have hne : ¬ cD code[j] = x := by omega
      rw [List.any_cons, decide_eq_false hne]
      simp
    · rw [decide_eq_false hx, Bool.and_false, Bool.and_false]
theorem setB_put {code : List UInt32} {j : Nat} (hj : j < code.length) (h : jmpB code[j] = true) (hlt : cD code[j] < (code.length : Int)) (x : Int) : (setB code j x || decide (x = cD code[j])) = setB code (j + 1) x := by
  unfold setB
  rw [List.take_succ_eq_append_getElem hj, List.any_append, List.any_cons, h]
  by_cases e : x = cD code[j]
  · subst e
    simp [hlt]
  · have hne : ¬ cD code[j] = x := fun e2 => e e2.symm
    rw [decide_eq_false e, decide_eq_false hne]
    simp
theorem setB_all (code : List UInt32) (i : Nat) : setB code code.length (i : Int) = (isT code i && decide (i < code.length)) := by
  unfold setB isT
  rw [List.take_of_length_le (Nat.le_refl _)]
  by_cases h : i < code.length
  · rw [decide_eq_true h, decide_eq_true (by omega)]
  · rw [decide_eq_false h, decide_eq_false (by omega)]
theorem setB_neg (code : List UInt32) (x : Int) (h : x < 0) : setB code code.length x = false := by
  unfold setB
  have h2 : (code.take code.length).any (fun w => jmpB w && decide (cD w = x)) = false := by
    rw [List.any_eq_false]
    intro w _
    have : 0 ≤ cD w := by unfold cD; omega
    rw [decide_eq_false (by omega)]
    simp
  rw [h2]
  rfl
/-- The keys, sorted. -/
theorem keys_targ {code : List UInt32} {D : DataW Unit} (hS : SetD D (setB code code.length)) {P : Program} {k : TypeId} {R : Value → Option (DataW Unit × List MemPlace)} {w : World} {b n : Nat} (hown : w.ownsMap P k R b n D) (hk : P.underlying k = some (.int .i64))
    {ss : List Int} (hp : ss.Perm (intKeys D)) : ss.mergeSort (fun x y => decide (x ≤ y)) = (targL code).map (fun i : Nat => (i : Int)) ∧ ss.length = (targL code).length := by
  have hnd : (targL code).Pairwise (· < ·) := by
    unfold targL
    exact List.Pairwise.filter _ List.pairwise_lt_range
  have hC : CollectedI D (fun _ => false) ((targL code).map (fun i : Nat => (i : Int))) := by
    constructor
    · rw [List.Nodup, List.pairwise_map]
      exact hnd.imp (fun h e => by omega)
    · intro x
      rw [(hS.2 x).1, List.mem_map]
      constructor
      · rintro ⟨i, hi, rfl⟩
        obtain ⟨h1, h2⟩ := mem_targ.1 hi
        rw [setB_all, h2, decide_eq_true h1]
        exact ⟨rfl, rfl⟩
      · rintro ⟨h, _⟩
        by_cases hx : x < 0
        · rw [setB_neg _ _ hx] at h
          exact absurd h (by decide)
        · refine ⟨x.toNat, ?_, by omega⟩
          rw [show x = ((x.toNat : Nat) : Int) by omega, setB_all, Bool.and_eq_true] at h
          exact mem_targ.2 ⟨of_decide_eq_true h.2, h.1⟩
  have hL := hC.perm hown (int_keyed hk) hk (fun _ => rfl)
  have hpp := hp.trans hL.symm
  refine ⟨?_, ?_⟩
  · rw [mergeSort_of_perm_i hpp]
    apply List.mergeSort_of_pairwise
    rw [List.pairwise_map]
    exact hnd.imp (fun h => by simp only [decide_eq_true_eq]; omega)
  · have := hpp.length_eq
    rwa [List.length_map] at this
theorem plainElem_bool_inv {P : Program} {e : TypeId} (he : P.underlying e = some .bool) {v : Value} {z : DataW Unit × List MemPlace} (h : plainElem P e v = some z) : ∃ x, v = .bool x ∧ z = (.lit (.bool x), []) := by
  unfold plainElem at h
  rw [he] at h
  cases v <;> simp at h
  subst h
  exact ⟨_, rfl, rfl⟩

/-- The set's block in some later world. -/
def Tm (w : World) (b : Nat) (code : List UInt32) (j : Nat) : Prop := ∃ n D, n ≤ j ∧ w.ownsMap Tryd.prog 3 (plainElem (H := Unit) Tryd.prog 4) b n D ∧ SetD D (setB code j)
theorem Tm.block {w w' : World} {b j : Nat} {code : List UInt32} (h : Tm w b code j) (hb : ∀ o, w.heap[b]? = some o → (∀ c t fz, o ≠ .cells c t fz) → w'.heap[b]? = some o) : Tm w' b code j := by
  obtain ⟨n, D, hn, ⟨es, clock, hh, r⟩, hS⟩ := h
  exact ⟨n, D, hn, ⟨es, clock, hb _ hh (fun _ _ _ e => by cases e), r⟩, hS⟩
theorem Tm.lt {w : World} {b j : Nat} {code : List UInt32} (h : Tm w b code j) : b < w.heap.size := by
  obtain ⟨n, D, hn, ⟨es, clock, hh, r⟩, hS⟩ := h
  exact (Array.getElem?_eq_some_iff.1 hh).1
theorem Tm.below {w w' : World} {b j : Nat} {code : List UInt32} (h : Tm w b code j) {B : Nat} (hB : B = w.heap.size) (hb : Below B w w') : Tm w' b code j :=
  h.block fun o ho _ => by subst hB; exact (hb.block b h.lt).trans ho
theorem Tm.others {w w' : World} {b j q : Nat} {code : List UInt32} (h : Tm w b code j) (hq : b ≠ q) (hk : Lib.OthersKept 5 (some q) w w') : Tm w' b code j :=
  h.block fun o ho hc => hk b o ho (fun e => hq (by injection e)) (fun c fz => hc c _ fz)
theorem Tm.look {w : World} {b : Nat} {code : List UInt32} (h : Tm w b code code.length) (x : Int) (hx : (Lit.int .i64 x).wf = true) : (Instr.lookup 84 (.map (some b)) (.int .i64 x) false).run Tryd.prog w = .ok (.bool (setB code code.length x)) w := by
  obtain ⟨n, D, hn, hown, hS⟩ := h
  obtain ⟨v, ps, hrun, hv⟩ := hown.lookup (int_keyed Tryd.underlying3) Tryd.underlying84 (z := .bool false) (by kernel_rfl) (plainElem_bool Tryd.underlying4 false) (key := .int .i64 x) (kl := .int .i64 x) (keyOf_int_mk Tryd.underlying3 hx)
  obtain ⟨y, rfl, hy⟩ := plainElem_bool_inv Tryd.underlying4 hv
  simp only [Prod.mk.injEq] at hy
  rw [(hS.2 x).2] at hy
  generalize setB code code.length x = z at hy ⊢
  obtain rfl : z = y := Lit.bool.inj (DataW.lit.inj hy.1)
  exact hrun
end Go.Proofs.YtneebohaanjejaaDoor
