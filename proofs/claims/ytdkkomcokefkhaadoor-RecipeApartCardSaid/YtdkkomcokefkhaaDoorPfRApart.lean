/- The law RecipeApart: for every input the call returns true, and its arguments read as they did; the package's tables are as its text lays them (tied). No other condition. -/
import Derived.Test.YtdkkomcokefkhaaDoorCards
import Derived.Test.YtdkkomcokefkhaaDoorTie
import Derived.Test.YtdkkomcokefkhaaDoorRdR
import Derived.Test.YtdkkomcokefkhaaDoorLawRApart
import Derived.Deep.DeepHandedRow
import Derived.Lib.LaidTab
import Derived.Stop.LaidErr
namespace Go.Proofs.YtdkkomcokefkhaaDoor.recipeApart
open Go.ChangeShapes Go.WideShapes Go.ChangeAt Go.RowKit
open Go.ChangeMaps (open_string shut_string)
set_option linter.unusedVariables false

theorem own : ownKnob Tryd.prog.godebug = none := by kernel_rfl
theorem laidOut : laidOutB Tryd.prog = true := by kernel_rfl

theorem tab_places {W : World} (h : laidMet Tryd.prog Rows.recipeApartRow.laid W) : Places W := by
  have g : Tryd.prog.globalNamed "seedcorn/digest.places" = some 0 := by kernel_rfl
  have ht : Lib.TabIs Tryd.prog W "seedcorn/digest.places" .i64 [7, 9, 13, 18] := Lib.tabIs_of_head g (by kernel_rfl) Tryd.underlying68 Tryd.underlying3 (by kernel_rfl) (by kernel_rfl) h
  have hc : ∀ i, i < 4 → W.cell? ⟨0, i, none⟩ = some (.int .i64 (turnAt i)) := by
    have hd : ∀ i, i < 4 → ([7, 9, 13, 18] : List Int).getD i 0 = (turnAt i) := by decide
    intro i hi
    have h2 := ht.cell g i hi
    rw [h2, hd i hi]
  exact ⟨cell_lt (hc 0 (by decide)), hc⟩
/-- A world for the witness: the tables hold what their initialisers lay. -/
noncomputable def laidWorld (os : Os) : World :=
  { World.holding Tryd.prog os ⟨#[], #[], []⟩ with heap := ((World.holding Tryd.prog os ⟨#[], #[], []⟩).heap.modify 0 fun
      | .cells _ t frozen => .cells #[.int .i64 7, .int .i64 9, .int .i64 13, .int .i64 18] t frozen
      | o => o) }
theorem laid_met (os : Os) : laidMet Tryd.prog Rows.recipeApartRow.laid ((laidWorld os).forCall (fun _ _ => 0) ⟨#[], #[.agg #[.int .i64 0, .int .u32 0, .int .u32 0, .int .u32 0, .int .u32 0, .slice none 0 0, .slice none 0 0, .int .i64 0], .agg #[.int .i64 0, .int .u32 0, .int .u32 0, .int .u32 0, .int .u32 0, .slice none 0 0, .slice none 0 0, .int .i64 0]], []⟩).memory :=
  laidMet_of_run' 8 (by kernel_rfl) (by kernel_rfl)
theorem reads (os : Os) {H : Type} (enc : TypeId × Value → H) : ∃ places, DataW.whole enc Tryd.prog ((laidWorld os).forCall (fun _ _ => 0) ⟨#[], #[.agg #[.int .i64 0, .int .u32 0, .int .u32 0, .int .u32 0, .int .u32 0, .slice none 0 0, .slice none 0 0, .int .i64 0], .agg #[.int .i64 0, .int .u32 0, .int .u32 0, .int .u32 0, .int .u32 0, .slice none 0 0, .slice none 0 0, .int .i64 0]], []⟩).memory Tryd.f5.params.toList Rows.recipeApartSpec.vars false (#[.agg #[.int .i64 0, .int .u32 0, .int .u32 0, .int .u32 0, .int .u32 0, .slice none 0 0, .slice none 0 0, .int .i64 0], .agg #[.int .i64 0, .int .u32 0, .int .u32 0, .int .u32 0, .int .u32 0, .slice none 0 0, .slice none 0 0, .int .i64 0]] : Array Value).toList 8 = some ([.agg [.lit (.int .i64 0), .agg [.lit (.int .u32 0), .lit (.int .u32 0), .lit (.int .u32 0), .lit (.int .u32 0)], .nil, .nil, .lit (.int .i64 0)], .agg [.lit (.int .i64 0), .agg [.lit (.int .u32 0), .lit (.int .u32 0), .lit (.int .u32 0), .lit (.int .u32 0)], .nil, .nil, .lit (.int .i64 0)]], [], places) :=
  ⟨[], by kernel_rfl⟩

theorem contract (H : Type) (enc : TypeId × Value → H) (W : World) (base : Nat) (args : Array Value) (ds gs : List (DataW H)) (before : List MemPlace)
    (hval0 : ∀ (j : Nat) t v, Tryd.f5.params[j]? = some t → args[j]? = some v → Value.okWide Tryd.prog W .any base t v)
    (hW : DataW.Whole enc Tryd.prog Tryd.f5.params.toList Rows.recipeApartSpec.vars false W args.toList ds gs before) (hL : laidMetH Tryd.prog Rows.recipeApartRow.laid W) :
    Calls Tryd.prog 5 args W fun e W' => ∃ v, e = .returned v ∧ Rows.recipeApartSpec.post enc Tryd.prog Tryd.f5 false true false false W args v W' := by
  have hPlaces : Places W := tab_places hL
  have hval := hval0
  have hW' := hW
  obtain ⟨p, q, hA0, hV, rfl, hfz, hnd⟩ := hW
  have hA : DataW.TrodAll enc Tryd.prog W 0 (fun _ => true) true Tryd.f5.params.toList args.toList ds p := hA0
  rw [Tryd.params5] at hA hval
  obtain ⟨v0, vs0, d0, ds0, p0, q0, hargs, rfl, rfl, h0, r0⟩ := trodAll_cons hA
  obtain ⟨v1, vs1, d1, ds1, p1, q1, rfl, rfl, rfl, h1, r1⟩ := trodAll_cons r0
  obtain ⟨rfl, rfl, rfl⟩ := trodAll_nil r1
  obtain rfl : args = #[v0, v1] := by cases args; simp_all
  obtain ⟨rfl, rfl⟩ := trodVars_none hV
  have k0 := h0
  have lt0 : ∀ x ∈ p0, x.block < W.heap.size := by obtain ⟨m, hm⟩ := k0; exact DataW.trod_lt m _ _ _ hm
  have k1 := h1
  have lt1 : ∀ x ∈ p1, x.block < W.heap.size := by obtain ⟨m, hm⟩ := k1; exact DataW.trod_lt m _ _ _ hm
  obtain ⟨tl0, I0, A0, qs0, c0, D0, es0, e0, f0, rfl, hS0, hD0⟩ := rd_recipe (enc := enc) Tryd.underlying28 (by kernel_rfl) rfl rfl rfl rfl rfl (by kernel_rfl) (by kernel_rfl) (by kernel_rfl) (by kernel_rfl) (by kernel_rfl) Tryd.underlying3 Tryd.underlying24 Tryd.underlying25 Tryd.underlying26 Tryd.underlying3 Tryd.underlying3 (by kernel_rfl) Tryd.underlying24 (by kernel_rfl) Tryd.underlying22 (by kernel_rfl) (hval 0 28 v0 rfl rfl) h0 lt0
  obtain ⟨tl1, I1, A1, qs1, c1, D1, es1, e1, f1, rfl, hS1, hD1⟩ := rd_recipe (enc := enc) Tryd.underlying28 (by kernel_rfl) rfl rfl rfl rfl rfl (by kernel_rfl) (by kernel_rfl) (by kernel_rfl) (by kernel_rfl) (by kernel_rfl) Tryd.underlying3 Tryd.underlying24 Tryd.underlying25 Tryd.underlying26 Tryd.underlying3 Tryd.underlying3 (by kernel_rfl) Tryd.underlying24 (by kernel_rfl) Tryd.underlying22 (by kernel_rfl) (hval 1 28 v1 rfl rfl) h1 lt1
  clear hA0 hval0
  refine (rapart_walk tl0 tl1 I0 I1 A0 D0 A1 D1 qs0 qs1 es0 es1 c0 e0 c1 e1 f0 f1 W hPlaces hS0 hS1 hD0 hD1).mono fun e W' ⟨he, bel⟩ => ?_
  subst he
  exact ⟨_, rfl, _, _, _, [], _, [], hW', trodAll_mk1 (shut_bool Tryd.underlying4 _), (trodAll_cons_mk (Below.trod laidOut (by kernel_rfl) (of_decide_eq_true (by kernel_rfl)) k0 bel lt0) (trodAll_cons_mk (Below.trod laidOut (by kernel_rfl) (of_decide_eq_true (by kernel_rfl)) k1 bel lt1) trodAll_mk0)), rfl, bel.frame _, fun h => by cases h⟩

set_option maxRecDepth 100000 in
theorem lifted (os : Os) (started : os.Started) (H : Type) (enc : TypeId × Value → H) (F : Stop.Interp) :
    ReturnsInHanded {} Tryd.checked os 5 .any ((OpenSpec.ofChange Rows.recipeApartSpec).preRow enc Tryd.prog Tryd.f5 Rows.recipeApartRow.domain false Rows.recipeApartRow.laid) (((OpenSpec.ofChange Rows.recipeApartSpec).at F).post enc Tryd.prog Tryd.f5 false true false false) := by
  obtain ⟨places, hx⟩ := reads os enc
  refine returnsInHanded_of_row (C := Tryd.checked) (s := OpenSpec.ofChange Rows.recipeApartSpec) own started (by kernel_rfl) Tryd.func5
    (witness_row_at (enc := enc) (C := Tryd.checked) false (laidWorld os) #[.agg #[.int .i64 0, .int .u32 0, .int .u32 0, .int .u32 0, .int .u32 0, .slice none 0 0, .slice none 0 0, .int .i64 0], .agg #[.int .i64 0, .int .u32 0, .int .u32 0, .int .u32 0, .int .u32 0, .slice none 0 0, .slice none 0 0, .int .i64 0]] rfl (by kernel_rfl) (by kernel_rfl) (by kernel_rfl)
      (OpenSpec.preRow_of_cond 8 hx (by kernel_rfl) (fun k hk => by cases hk) (by kernel_rfl) (laid_met os))) ?_
  intro W base args ds gs before hval hW _ _ _ hL _ _
  exact contract H enc W base args ds gs before hval hW hL

theorem said : Rows.RecipeApartSaid :=
  OpenClaim.holds_of_cond 5 Tryd.f5 rfl rfl rfl rfl rfl rfl rfl ⟨rfl, rfl, rfl, rfl, rfl⟩ rfl rfl rfl rfl rfl (by kernel_rfl) Tryd.func5 (by kernel_rfl)
    (of_decide_eq_true (by kernel_rfl)) (by unfold Func.isWrapper; first | (rw [if_pos (by decide +kernel)]; kernel_rfl) | (rw [if_neg (by decide +kernel)]; exact ⟨rfl, rfl⟩))
    (fun os started H enc _ F => by rw [OpenClaim.pre_eq_preRow]; exact lifted os started H enc F)

theorem plain (f : FuncId) (fn : Func) (hf : Tryd.pinned.checked.prog.funcNamed "seedcorn/seedcornlaw37.RecipeApart" = some f) (hfn : Tryd.pinned.checked.prog.funcs[f]? = some fn) :
    false = Tryd.pinned.checked.prog.looks [] ∧ ∀ (j : Nat) t, fn.params[j]? = some t → Tryd.pinned.checked.prog.wantsStandIn t = false := by
  obtain rfl : f = 5 := Option.some.inj ((show Tryd.prog.funcNamed "seedcorn/seedcornlaw37.RecipeApart" = some 5 by kernel_rfl).symm.trans hf) |>.symm
  obtain rfl : fn = Tryd.f5 := (Option.some.inj (Tryd.func5.symm.trans hfn)).symm
  refine ⟨by kernel_rfl, fun j t ht => ?_⟩
  rw [Tryd.params5] at ht
  obtain rfl : t = 28 := by simpa using Array.mem_of_getElem? ht
  exact (show Tryd.prog.wantsStandIn 28 = false by kernel_rfl)

theorem card : Rows.RecipeApartCardSaid :=
  Claim7.holds_tied_plain_at .later [] _ _ _ _ said (fun _ h => by cases h) (by kernel_rfl) (fun _ h => by cases h) recipeApart_row_tie rfl ⟨rfl, rfl⟩ (by kernel_rfl) rfl plain (by kernel_rfl)
#print axioms card
end Go.Proofs.YtdkkomcokefkhaaDoor.recipeApart
