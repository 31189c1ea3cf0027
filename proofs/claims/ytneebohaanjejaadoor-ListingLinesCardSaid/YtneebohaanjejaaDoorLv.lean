/- Layer 11: the targets in order, walked: the document's. -/
import Derived.Test.YtneebohaanjejaaDoorLo
namespace Go.Proofs.YtneebohaanjejaaDoor
open Go.RowKit

def bl (x : Bool) : Value := .bool x
def isRow (code : List UInt32) (j : Nat) : List Value := (List.range code.length).map fun i : Nat => Value.bool (setB code j (i : Int))
theorem made_row (n : Nat) : (madeCells #[Value.bool false] n).toList = (List.range n).map fun _ => Value.bool false := by
  apply List.ext_getElem
  · simp [size_madeCells]
  · intro i h1 h2
    simp only [List.length_map, List.length_range] at h2
    simp [madeCells, Nat.mod_one]
theorem isRow_zero (code : List UInt32) : isRow code 0 = (madeCells #[Value.bool false] code.length).toList := by
  rw [made_row]
  unfold isRow
  apply List.map_congr_left
  intro i _
  rw [setB_zero]
theorem isRow_skip {code : List UInt32} {j : Nat} (hj : j < code.length) (h : jmpB code[j] = false ∨ ¬ cD code[j] < (code.length : Int)) : isRow code (j + 1) = isRow code j := by
  unfold isRow
  apply List.map_congr_left
  intro i _
  rw [setB_skip hj h]
theorem isRow_put {code : List UInt32} {j k : Nat} (hj : j < code.length) (h : jmpB code[j] = true) (hk : cD code[j] = (k : Int)) (hlt : k < code.length) : (isRow code j).set k (.bool true) = isRow code (j + 1) := by
  unfold isRow
  rw [set_mapRange]
  apply List.map_congr_left
  intro i _
  rw [← setB_put hj h (by omega), hk]
  by_cases e : i = k
  · subst e
    simp
  · rw [if_neg e, decide_eq_false (by omega), Bool.or_false]
/-- The image's box, and the row. -/
structure Vt (w : World) (A : Option Addr) (code : List UInt32) (c : Nat) (d : Int) (j : Nat) (W : World) : Prop where
  g : Tg w A code.length c d W
  r : W.ownsRow (w.heap.size + 1) 4 1 (.slice (some ⟨w.heap.size + 1, 0, none⟩) code.length code.length) code.length (isRow code j)
  lt : w.heap.size + 1 < W.heap.size
section
variable {w W W' : World} {A : Option Addr} {code : List UInt32} {c j : Nat} {d : Int}
theorem Vt.below (h : Vt w A code c d j W) {B : Nat} (hB : B = W.heap.size) (hb : Below B W W') : Vt w A code c d j W' := by
  subst hB
  exact ⟨h.g.below hb, own_below h.r rfl hb, Nat.lt_of_lt_of_le h.lt hb.size⟩
theorem Vt.keep (h : Vt w A code c d j W) {B : Nat} (hB : w.heap.size + 1 < B) (hb : Below B W W') : Vt w A code c d j W' := by
  refine ⟨⟨h.g.m.below hb (by omega), h.g.bel.trans (hb.mono (by omega))⟩, ?_, Nat.lt_of_lt_of_le h.lt hb.size⟩
  obtain ⟨h1, h2⟩ := h.r
  refine ⟨h1, ?_⟩
  rcases h2 with ⟨h0, _⟩ | ⟨g, cap, cur, hv, hg, hh, r⟩
  · cases h0
  · have e : g = w.heap.size + 1 := by
      injection hv with hv
      injection hv with hv
      injection hv with hv
      exact hv.symm
    exact .inr ⟨g, cap, cur, hv, hg, (hb.block g (by omega)).trans hh, r⟩
theorem Vt.cell (h : Vt w A code c d j W) {i : Nat} (hi : i < code.length) : W.cell? ⟨w.heap.size + 1, i, none⟩ = some (.bool (setB code j (i : Int))) :=
  own_cell h.r (get_mapRange code.length i (fun i : Nat => Value.bool (setB code j (i : Int))) hi)
theorem Vt.set (h : Vt w A code c d j W) (hj : j < code.length) (hjm : jmpB code[j] = true) {k : Nat} (hk : cD code[j] = (k : Int)) (hlt : k < code.length) : Vt w A code c d (j + 1) (W.setCell ⟨w.heap.size + 1, k, none⟩ (.bool true)) := by
  refine ⟨⟨h.g.m.far (by simp) _, h.g.bel.setCell (p := ⟨w.heap.size + 1, k, none⟩) (by simp) _⟩, ?_, ?_⟩
  · have k2 := own_set h.r hlt (.bool true)
    rw [isRow_put hj hjm hk hlt] at k2
    exact k2
  · have := h.lt
    simpa using this
end
theorem own_ge {w : World} {B E n c : Nat} {A : Option Addr} {xs : List Value} (h : w.ownsRow B E 1 (.slice A n c) n xs) : ∀ b off, A = some ⟨b, off, none⟩ → B ≤ b := by
  intro b off e
  subst e
  rcases h.2 with ⟨h0, _⟩ | ⟨g, cap, cur, hv, hg, _⟩
  · cases h0
  · injection hv with hv
    injection hv with hv
    injection hv with hv
    omega
def tgt (code : List UInt32) (j : Nat) : List Nat := (List.range j).filter fun i => setB code code.length (i : Int)
theorem tgt_all (code : List UInt32) : tgt code code.length = targL code := by
  unfold tgt targL
  apply List.filter_congr
  intro i hi
  rw [setB_all, decide_eq_true (List.mem_range.1 hi), Bool.and_true]
theorem tgt_succ (code : List UInt32) (j : Nat) : tgt code (j + 1) = tgt code j ++ (if setB code code.length (j : Int) then [j] else []) := by
  unfold tgt
  rw [List.range_succ, List.filter_append]
  congr 1
  simp [List.filter_cons]
theorem tgt_len (code : List UInt32) (j : Nat) : (tgt code j).length ≤ j := by
  unfold tgt
  have := List.length_filter_le (fun i : Nat => setB code code.length (i : Int)) (List.range j)
  rwa [List.length_range] at this

set_option maxHeartbeats 2000000 in
theorem ref11_Targets (A : Option Addr) (code : List UInt32) (c : Nat) (d : Int) (w : World) (hA : Sl w w.heap.size A code.length (code.map wv)) (hn : code.length ≤ 20000) :
    Calls Tryd.prog 21 #[.agg #[.slice A code.length c, .int .i64 d]] w fun e w' => (∃ B c', e = .returned (.slice B (targL code).length c') ∧ Sl w' w'.heap.size B (targL code).length ((targL code).map tv) ∧ (targL code).length ≤ c' ∧ ∀ b off, B = some ⟨b, off, none⟩ → w.heap.size ≤ b) ∧ Below w.heap.size w w' := by
  have T0 := Tg.new w A code.length c d
  have t0 := T0.cells.1
  have V0 : Vt w A code c d 0 ((w.alloc (.cells #[.slice A code.length c, .int .i64 d] 25)).alloc (.cells (madeCells #[Value.bool false] code.length) 4)) := by
    have h := World.ownsRow_lit (w.alloc (.cells #[.slice A code.length c, .int .i64 d] 25)) (base := w.heap.size + 1) (e := 4) (size := 1) (madeCells #[Value.bool false] code.length) code.length (by simp) (by unfold maxLen; omega) (by rw [size_madeCells, Nat.mul_one])
    have e : (w.alloc (.cells #[.slice A code.length c, .int .i64 d] 25)).heap.size = w.heap.size + 1 := by simp
    rw [e] at h
    refine ⟨T0.alloc _, ?_, by simp⟩
    rw [isRow_zero]
    exact h
  have hmk : ∀ W : World, (Instr.makeSlice 86 (.int .i64 (code.length : Int)) (.int .i64 (code.length : Int))).run Tryd.prog W = .ok (.slice (some ⟨W.heap.size, 0, none⟩) code.length code.length) (W.alloc (.cells (madeCells #[Value.bool false] code.length) 4)) := fun W => by
    obtain ⟨i, hi, h1, h2, h3⟩ := info_parts (show (Tryd.prog.info? 4).map (fun i => (i.zero, i.size, i.bytes)) = some (some (.bool false), 1, 1) by kernel_rfl)
    have h := run_make (P := Tryd.prog) W 86 4 i (.bool false) Tryd.underlying86 hi h1 .i64 .i64 (code.length : Int) (code.length : Int) (by omega) (Int.le_refl _) (by rw [h3]; omega) (by omega)
    rw [h2, Nat.mul_one, Int.toNat_natCast] at h
    exact h
  have HM := Lib.hid hmk
  clear hmk
  go_enter Tryd.func21, Tryd.ntmps21
  have hmk2 := HM.out (w.alloc (.cells #[.slice A code.length c, .int .i64 d] 25))
  go_wp2_with fail
  generalize (w.alloc (.cells #[.slice A code.length c, .int .i64 d] 25)).alloc (.cells (madeCells #[Value.bool false] code.length) 4) = W0 at V0 ⊢
  clear hmk2 t0 T0 HM
  have hsz0 : (w.alloc (.cells #[.slice A code.length c, .int .i64 d] 25)).heap.size = w.heap.size + 1 := by simp
  try rw [hsz0]
  have t0 := V0.g.cells.1
  go_wp2_with fail
  go_loopw [4] (fun i wr => ∃ j : Nat, j ≤ code.length ∧ i = .int .i64 j ∧ Vt w A code c d j wr) (fun i _ => code.length - (intOf i).toNat)
  case atStart => exact ⟨0, Nat.zero_le _, rfl, V0⟩
  case round =>
    clear V0 t0
    obtain ⟨j, hj, rfl, hV⟩ := hrel
    have t0 := hV.g.cells.1
    by_cases hlt : j < code.length
    · obtain ⟨bk, off, rfl, hbk, hc⟩ := (hA.below hV.g.bel).word hlt
      have hjI : (j : Int) < code.length := by omega
      have hj0 : (0 : Int) ≤ j := by omega
      have hnI : (code.length : Int) ≤ 20000 := by omega
      have KL := Lib.hid (ref11_Jump code[j])
      have hcase : (jmpB code[j] = false ∨ (jmpB code[j] = true ∧ ¬ cD code[j] < (code.length : Int))) ∨ (jmpB code[j] = true ∧ cD code[j] < (code.length : Int)) := by
        cases jmpB code[j] with
        | false => exact .inl (.inl rfl)
        | true => by_cases h : cD code[j] < (code.length : Int)
                  · exact .inr ⟨rfl, h⟩
                  · exact .inl (.inr ⟨rfl, h⟩)
      have HV := Lib.hid hV
      clear hV
      obtain ⟨x, hx⟩ : ∃ x, code[j] = x := ⟨_, rfl⟩
      rcases hcase with (hj1 | ⟨hj1, hlt2⟩) | ⟨hj1, hlt2⟩
      · have hsk := Lib.hid (isRow_skip hlt (.inl hj1))
        rw [hj1, lead_false hj1] at KL
        rw [hx] at hc KL
        clear hj1 hx
        go_wp2_with fail
        refine (KL.out _).mono ?_
        rintro e w1 ⟨rfl, hb1⟩
        have HV1 : Hid (Vt w (some ⟨bk, off, none⟩) code c d (j + 1) w1) := by
          have k := HV.out.below rfl hb1
          exact ⟨k.g, by rw [hsk.out]; exact k.r, k.lt⟩
        have t1 := HV1.out.g.cells.1
        clear t0 hc hb1
        go_wp2_with fail
        go_roundw
        case rel => exact ⟨j + 1, hlt, by simp, HV1.out⟩
        case measure => simp [intOf]; omega
      · have hsk := Lib.hid (isRow_skip hlt (.inr hlt2))
        rw [hj1, lead_true hj1] at KL
        rw [hx] at hc KL hlt2
        clear hj1 hx
        go_wp2_with fail
        refine (KL.out _).mono ?_
        rintro e w1 ⟨rfl, hb1⟩
        have HV1 : Hid (Vt w (some ⟨bk, off, none⟩) code c d (j + 1) w1) := by
          have k := HV.out.below rfl hb1
          exact ⟨k.g, by rw [hsk.out]; exact k.r, k.lt⟩
        have t1 := HV1.out.g.cells.1
        clear t0 hc hb1
        go_wp2_with fail
        go_roundw
        case rel => exact ⟨j + 1, hlt, by simp, HV1.out⟩
        case measure => simp [intOf]; omega
      · obtain ⟨k, hk⟩ : ∃ k : Nat, cD code[j] = (k : Int) := ⟨(cD code[j]).toNat, by unfold cD; omega⟩
        have hkl : k < code.length := by omega
        have HS := Lib.hid (fun (W : World) (h : Vt w (some ⟨bk, off, none⟩) code c d j W) => h.set hlt hj1 hk hkl)
        rw [hj1, lead_true hj1, hk] at KL
        rw [hx] at hc KL
        have hkI : (k : Int) < code.length := by omega
        have hk0 : (0 : Int) ≤ k := by omega
        clear hj1 hx hk hlt2
        go_wp2_with fail
        refine (KL.out _).mono ?_
        rintro e w1 ⟨rfl, hb1⟩
        have V1 := HV.out.below rfl hb1
        have t1 := V1.g.cells.1
        have u1 := V1.cell hkl
        have u2 := own_frozen V1.r k
        have HV2 := Lib.hid (HS.out w1 V1)
        clear t0 hc hb1 V1
        go_wp2_with fail
        go_roundw
        case rel => exact ⟨j + 1, hlt, by simp, HV2.out⟩
        case measure => simp [intOf]; omega
    · obtain rfl : j = code.length := by omega
      have HV := Lib.hid hV
      clear hV
      go_wp2_with fail
      go_loopw [8, 7] (fun i v wr => ∃ j : Nat, j ≤ code.length ∧ i = .int .i64 j ∧ Vt w A code c d code.length wr ∧ wr.ownsRow (w.heap.size + 2) 3 1 v (tgt code j).length ((tgt code j).map tv)) (fun i _ _ => code.length - (intOf i).toNat)
      case atStart => exact ⟨0, Nat.zero_le _, rfl, HV.out, World.ownsRow_nil _ _ _ _⟩
      case round =>
        clear HV t0
        obtain ⟨j, hj, rfl, hV, hown⟩ := hrel
        have hlen := tgt_len code j
        by_cases hlt : j < code.length
        · have hjI : (j : Int) < code.length := by omega
          have hj0 : (0 : Int) ≤ j := by omega
          have hnI : (code.length : Int) ≤ 20000 := by omega
          have hcell := hV.cell hlt
          have hlw := hV.lt
          have HSt := Lib.hid (tgt_succ code j)
          have HV := Lib.hid hV
          clear hV
          cases hs : setB code code.length (j : Int) with
          | false =>
            rw [hs] at hcell HSt
            have HO := Lib.hid hown
            clear hs hown
            go_wp2_with fail
            go_roundw
            case rel => exact ⟨j + 1, hlt, by simp, HV.out, by rw [HSt.out, if_neg (by decide), List.append_nil]; exact HO.out⟩
            case measure => simp [intOf]; omega
          | true =>
            rw [hs] at hcell HSt
            clear hs
            go_wp2_with (at_builtin; refine wpList_append_new rfl _ _ 34 rfl (w.heap.size + 2) (.int .i64 0) 1 8 Tryd.underlying34 (by kernel_rfl) rfl (by decide) _ (tgt code j).length _ rfl hown 1 rfl rfl (by simp [Value.oneCell']) (by omega) (by omega) hlw ?_; intro v1 w3 hown1 hb3 hk)
            have HV3 := Lib.hid (HV.out.keep (Nat.lt_succ_self _) hb3)
            have HO3 : Hid (w3.ownsRow (w.heap.size + 2) 3 1 v1 (tgt code (j + 1)).length ((tgt code (j + 1)).map tv)) := Lib.hid (by
              rw [HSt.out, if_pos rfl, List.length_append, List.map_append]
              exact hown1)
            clear hown hown1 hb3 hk hcell hlw
            go_wp2_with fail
            go_roundw
            case rel => exact ⟨j + 1, hlt, by simp, HV3.out, HO3.out⟩
            case measure => simp [intOf]; omega
        · obtain rfl : j = code.length := by omega
          rw [tgt_all] at hown
          obtain ⟨B, c', rfl, hcc, -, hSl⟩ := Sl.of_own hown
          have hge := own_ge hown
          have HG : Hid ((targL code).length ≤ c' ∧ ∀ b off, B = some ⟨b, off, none⟩ → w.heap.size ≤ b) := Lib.hid ⟨hcc, fun b off h => by have := hge b off h; omega⟩
          have HSl := Lib.hid hSl
          have HV := Lib.hid hV
          clear hV hown hSl hge hcc
          go_wp2_with fail
          go_returns
          exact ⟨⟨B, c', rfl, HSl.out, HG.out⟩, HV.out.g.bel⟩
end Go.Proofs.YtneebohaanjejaaDoor
