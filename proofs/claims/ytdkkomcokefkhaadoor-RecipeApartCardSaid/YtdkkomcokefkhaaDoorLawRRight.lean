/- The law RecipeRight, walked. -/
import Derived.Test.YtdkkomcokefkhaaDoorRcU
namespace Go.Proofs.YtdkkomcokefkhaaDoor
open Go.RowKit

/-- A recipe's value. -/
def recV (t : Int) (I : Nat → UInt32) (A : Option Addr) (n c : Nat) (B : Option Addr) (m e : Nat) (f : Int) : Value := .agg #[.int .i64 t, .int .u32 (I 0).toNat, .int .u32 (I 1).toNat, .int .u32 (I 2).toNat, .int .u32 (I 3).toNat, .slice A n c, .slice B m e, .int .i64 f]
theorem Rb2.drew {w W : World} {t f t' f' : Int} {I I' : Nat → UInt32} {p i p' i' : Value} (h : Rb2 w t I p i f t' I' p' i' f' W) : Rb2 w t I p i f t' I' p' i' f' W.drew := ⟨h.x, h.y, h.bel.drew⟩

theorem Rb2.held {w W : World} {t f t' f' : Int} {I I' : Nat → UInt32} {A B A' B' : Option Addr} {ps ps' : List Int} {ds ds' : List (Nat → UInt32)} {c e c' e' : Nat} (h : Rb2 w t I (.slice A ps.length c) (.slice B ds.length e) f t' I' (.slice A' ps'.length c') (.slice B' ds'.length e') f' W) :
    W.cell? ⟨w.heap.size, 0, none⟩ = some (.int .i64 t) ∧ W.cell? ⟨w.heap.size, 1, none⟩ = some (.int .u32 (I 0).toNat) ∧ W.cell? ⟨w.heap.size, 2, none⟩ = some (.int .u32 (I 1).toNat) ∧ W.cell? ⟨w.heap.size, 3, none⟩ = some (.int .u32 (I 2).toNat) ∧ W.cell? ⟨w.heap.size, 4, none⟩ = some (.int .u32 (I 3).toNat) ∧ W.cell? ⟨w.heap.size, 5, none⟩ = some (.slice A ps.length c) ∧ W.cell? ⟨w.heap.size, 6, none⟩ = some (.slice B ds.length e) ∧ W.cell? ⟨w.heap.size, 7, none⟩ = some (.int .i64 f) ∧ W.cell? ⟨w.heap.size + 1, 0, none⟩ = some (.int .i64 t') ∧ W.cell? ⟨w.heap.size + 1, 1, none⟩ = some (.int .u32 (I' 0).toNat) ∧ W.cell? ⟨w.heap.size + 1, 2, none⟩ = some (.int .u32 (I' 1).toNat) ∧ W.cell? ⟨w.heap.size + 1, 3, none⟩ = some (.int .u32 (I' 2).toNat) ∧ W.cell? ⟨w.heap.size + 1, 4, none⟩ = some (.int .u32 (I' 3).toNat) ∧ W.cell? ⟨w.heap.size + 1, 5, none⟩ = some (.slice A' ps'.length c') ∧ W.cell? ⟨w.heap.size + 1, 6, none⟩ = some (.slice B' ds'.length e') ∧ W.cell? ⟨w.heap.size + 1, 7, none⟩ = some (.int .i64 f') ∧ Rb2 w t I (.slice A ps.length c) (.slice B ds.length e) f t' I' (.slice A' ps'.length c') (.slice B' ds'.length e') f' W :=
  ⟨h.x.cell 0, h.x.cell 1, h.x.cell 2, h.x.cell 3, h.x.cell 4, h.x.cell 5, h.x.cell 6, h.x.cell 7, h.y.cell 0, h.y.cell 1, h.y.cell 2, h.y.cell 3, h.y.cell 4, h.y.cell 5, h.y.cell 6, h.y.cell 7, h⟩

set_option maxRecDepth 100000 in
set_option maxHeartbeats 4000000 in
theorem rright_walk (t t' : Int) (I I' : Nat → UInt32) (A B A' B' : Option Addr) (ps ps' : List Int) (ds ds' : List (Nat → UInt32)) (c e c' e' : Nat) (f f' : Int) (w : World)
    (hs : Sl w w.heap.size A ps.length (ps.map iv)) (hs' : Sl w w.heap.size A' ps'.length (ps'.map iv)) (hd : Sd w w.heap.size B ds) (hd' : Sd w w.heap.size B' ds') :
    Calls Tryd.prog 7 #[.agg #[.int .i64 t, .int .u32 (I 0).toNat, .int .u32 (I 1).toNat, .int .u32 (I 2).toNat, .int .u32 (I 3).toNat, .slice A ps.length c, .slice B ds.length e, .int .i64 f], .agg #[.int .i64 t', .int .u32 (I' 0).toNat, .int .u32 (I' 1).toNat, .int .u32 (I' 2).toNat, .int .u32 (I' 3).toNat, .slice A' ps'.length c', .slice B' ds'.length e', .int .i64 f']] w fun r w' => r = .returned (.bool true) ∧ Below w.heap.size w w' := by
  have h0 := Rb2.new w t I (.slice A ps.length c) (.slice B ds.length e) f t' I' (.slice A' ps'.length c') (.slice B' ds'.length e') f'
  have H0 := Lib.hid h0
  clear h0
  go_enter Tryd.func7, Tryd.ntmps7
  go_wp2_with fail
  refine (awake_any _).mono ?_
  rintro r w1 ⟨rfl, hb1⟩
  have H1 := Lib.hid (H0.out.below hb1)
  clear H0 hb1
  obtain ⟨c0, c1, c2, c3, c4, c5, c6, c7, d0, d1, d2, d3, d4, d5, d6, d7⟩ := H1.out.all
  go_wp2_with fail
  refine (refR_Few t I A B ps.length c ds.length e f 100 _).mono ?_
  rintro r w2 ⟨he, hb2⟩
  have H2 := Lib.hid (H1.out.below hb2)
  clear H1 hb2 c0 c1 c2 c3 c4 c5 c6 c7 d0 d1 d2 d3 d4 d5 d6 d7
  by_cases hf1 : ps.length ≤ 100 ∧ ds.length ≤ 100
  case neg =>
    rw [decide_eq_false hf1] at he
    subst he
    go_wp2_with fail
    go_returns
    exact ⟨rfl, H2.out.bel⟩
  rw [decide_eq_true hf1] at he
  subst he
  obtain ⟨c0, c1, c2, c3, c4, c5, c6, c7, d0, d1, d2, d3, d4, d5, d6, d7⟩ := H2.out.all
  go_wp2_with fail
  refine (refR_Few t' I' A' B' ps'.length c' ds'.length e' f' 100 _).mono ?_
  rintro r w3 ⟨he, hb3⟩
  have H3 := Lib.hid (H2.out.below hb3)
  clear H2 hb3 c0 c1 c2 c3 c4 c5 c6 c7 d0 d1 d2 d3 d4 d5 d6 d7
  by_cases hf2 : ps'.length ≤ 100 ∧ ds'.length ≤ 100
  case neg =>
    rw [decide_eq_false hf2] at he
    subst he
    go_wp2_with fail
    go_returns
    exact ⟨rfl, H3.out.bel⟩
  rw [decide_eq_true hf2] at he
  subst he
  obtain ⟨c0, c1, c2, c3, c4, c5, c6, c7, d0, d1, d2, d3, d4, d5, d6, d7⟩ := H3.out.all
  have k1 := fun (W : World) (h : Below w.heap.size w W) => recipe_Right t I A B ps c ds.length e f W ((hs.below h).more h.size) (by omega) (by omega)
  have k2 := fun (W : World) (h : Below w.heap.size w W) => refR_Right t I A B ps c ds.length e f W ((hs.below h).more h.size) (by omega) (by omega)
  have k3 := fun (W : World) (h : Below w.heap.size w W) => recipe_Same t t' I I' A B A' B' ps ps' ds ds' c e c' e' f f' W ((hs.below h).more h.size) ((hs'.below h).more h.size) ((hd.below h).more h.size) ((hd'.below h).more h.size) (by omega) (by omega)
  have k4 := fun (W : World) (h : Below w.heap.size w W) => refR_Same t t' I I' A B A' B' ps ps' ds ds' c e c' e' f f' W ((hs.below h).more h.size) ((hs'.below h).more h.size) ((hd.below h).more h.size) ((hd'.below h).more h.size) (by omega) (by omega)
  obtain ⟨P, hP⟩ : ∃ P, rightR t I ps ds.length f = P := ⟨_, rfl⟩
  obtain ⟨Q, hQ⟩ : ∃ Q, sameR t t' I I' f f' ps ps' ds ds' = Q := ⟨_, rfl⟩
  rw [hP] at k1 k2
  rw [hQ] at k3 k4
  have K1 := Lib.hid k1
  have K2 := Lib.hid k2
  have K3 := Lib.hid k3
  have K4 := Lib.hid k4
  clear k1 k2 k3 k4 hP hQ
  clear c0 c1 c2 c3 c4 c5 c6 c7 d0 d1 d2 d3 d4 d5 d6 d7
  have hR3 := H3.out
  clear H3 hf1 hf2 hs hs' hd hd'
  go_wp2_with fail
  go_region_held3 (fun w' => w'.cell? ⟨w.heap.size, 0, none⟩ = some (.int .i64 t) ∧ w'.cell? ⟨w.heap.size, 1, none⟩ = some (.int .u32 (I 0).toNat) ∧ w'.cell? ⟨w.heap.size, 2, none⟩ = some (.int .u32 (I 1).toNat) ∧ w'.cell? ⟨w.heap.size, 3, none⟩ = some (.int .u32 (I 2).toNat) ∧ w'.cell? ⟨w.heap.size, 4, none⟩ = some (.int .u32 (I 3).toNat) ∧ w'.cell? ⟨w.heap.size, 5, none⟩ = some (.slice A ps.length c) ∧ w'.cell? ⟨w.heap.size, 6, none⟩ = some (.slice B ds.length e) ∧ w'.cell? ⟨w.heap.size, 7, none⟩ = some (.int .i64 f) ∧ w'.cell? ⟨w.heap.size + 1, 0, none⟩ = some (.int .i64 t') ∧ w'.cell? ⟨w.heap.size + 1, 1, none⟩ = some (.int .u32 (I' 0).toNat) ∧ w'.cell? ⟨w.heap.size + 1, 2, none⟩ = some (.int .u32 (I' 1).toNat) ∧ w'.cell? ⟨w.heap.size + 1, 3, none⟩ = some (.int .u32 (I' 2).toNat) ∧ w'.cell? ⟨w.heap.size + 1, 4, none⟩ = some (.int .u32 (I' 3).toNat) ∧ w'.cell? ⟨w.heap.size + 1, 5, none⟩ = some (.slice A' ps'.length c') ∧ w'.cell? ⟨w.heap.size + 1, 6, none⟩ = some (.slice B' ds'.length e') ∧ w'.cell? ⟨w.heap.size + 1, 7, none⟩ = some (.int .i64 f') ∧ Rb2 w t I (.slice A ps.length c) (.slice B ds.length e) f t' I' (.slice A' ps'.length c') (.slice B' ds'.length e') f' w') ((refine Rb2.held ?_; repeat (first | assumption | (refine Rb2.drew ?_))))
    ((first
      | (go_at_call 21; (with_reducible refine (K1.out _ hR3.drew.bel).mono ?_); rintro e w4 ⟨rfl, hb⟩; have hR4 := Rb2.below hR3.drew hb; clear hb)
      | (go_at_call 18; (with_reducible refine (K2.out _ hR4.bel).mono ?_); rintro e w5 ⟨rfl, hb⟩; have hR5 := Rb2.below hR4 hb; clear hb)
      | (go_at_call 22; (with_reducible refine (K3.out _ hR5.bel).mono ?_); rintro e w6 ⟨rfl, hb⟩; have hR6 := Rb2.below hR5 hb; clear hb)
      | (go_at_call 16; (with_reducible refine (K4.out _ hR6.bel).mono ?_); rintro e w7 ⟨rfl, hb⟩; have hR7 := Rb2.below hR6 hb; clear hb)))
  go_wp2_with fail
  go_returns
  exact ⟨rfl, hR7.bel⟩
end Go.Proofs.YtdkkomcokefkhaaDoor
