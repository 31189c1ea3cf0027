/- The shelf's contracts of strings.Builder, laid at this seat by name. -/
/- Layer 11: the closure that writes a line of the text, walked. -/
/- Layer 11: the whole text, walked: the program's. -/
import Derived.Shelf.Strings.BuilderK
import Derived.Test.YtknonabeagbjeaaGreatDoorProg
import Derived.Test.YtknonabeagbjeaaGreatDoorLib
import Derived.Test.YtknonabeagbjeaaGreatDoorLn
import Derived.Test.YtknonabeagbjeaaGreatDoorLw
import Derived.Test.YtknonabeagbjeaaGreatDoorImgP
namespace Go.Proofs.YtknonabeagbjeaaGreatDoor
open Go.Shelf Go.RowKit

def bld240_ren : Go.Shelf.Ren := ⟨fun | 240 => 23 | 276 => 44 | n => n, fun | 0 => 0 | 4 => 4 | 9 => 9 | 20 => 20 | 70 => 44 | 72 => 47 | 164 => 94 | 37 => 45 | 5 => 5 | n => n, fun n => n⟩
theorem bld240 : Go.Proofs.Lays.n240 Tryz.prog bld240_ren := {
  mixed := by kernel_rfl
  f240 := Tryz.func23.trans (congrArg some (by kernel_rfl))
  f276 := Tryz.func44.trans (congrArg some (by kernel_rfl))
  t0 := Tryz.underlying0
  a0 := Tryz.isAgg0
  z0 := Tryz.sizeOf0
  v0 := Tryz.zeroValue0
  t4 := Tryz.underlying4
  a4 := Tryz.isAgg4
  z4 := Tryz.sizeOf4
  v4 := Tryz.zeroValue4
  t9 := Tryz.underlying9
  a9 := Tryz.isAgg9
  z9 := Tryz.sizeOf9
  v9 := Tryz.zeroValue9
  t20 := Tryz.underlying20
  a20 := Tryz.isAgg20
  z20 := Tryz.sizeOf20
  v20 := Tryz.zeroValue20
  t70 := Tryz.underlying44
  a70 := Tryz.isAgg44
  z70 := Tryz.sizeOf44
  v70 := Tryz.zeroValue44
  t72 := Tryz.underlying47
  a72 := Tryz.isAgg47
  z72 := Tryz.sizeOf47
  v72 := Tryz.zeroValue47
  t164 := Tryz.underlying94
  a164 := Tryz.isAgg94
  z164 := Tryz.sizeOf94
  v164 := Tryz.zeroValue94 }
theorem bldX240 : Builder.X72 Tryz.prog bld240_ren := {
  sizeBuilder := by kernel_rfl
  liesBuilder := by kernel_rfl }
def bld166_ren : Go.Shelf.Ren := ⟨fun | 166 => 11 | 240 => 23 | 276 => 44 | n => n, fun | 0 => 0 | 3 => 3 | 4 => 4 | 9 => 9 | 20 => 20 | 37 => 45 | 70 => 44 | 72 => 47 | 75 => 49 | 164 => 94 | 80 => 58 | 5 => 5 | n => n, fun n => n⟩
theorem bld166 : Go.Proofs.Lays.n166 Tryz.prog bld166_ren := {
  mixed := by kernel_rfl
  f166 := Tryz.func11.trans (congrArg some (by kernel_rfl))
  f240 := Tryz.func23.trans (congrArg some (by kernel_rfl))
  f276 := Tryz.func44.trans (congrArg some (by kernel_rfl))
  t0 := Tryz.underlying0
  a0 := Tryz.isAgg0
  z0 := Tryz.sizeOf0
  v0 := Tryz.zeroValue0
  t3 := Tryz.underlying3
  a3 := Tryz.isAgg3
  z3 := Tryz.sizeOf3
  v3 := Tryz.zeroValue3
  t4 := Tryz.underlying4
  a4 := Tryz.isAgg4
  z4 := Tryz.sizeOf4
  v4 := Tryz.zeroValue4
  t9 := Tryz.underlying9
  a9 := Tryz.isAgg9
  z9 := Tryz.sizeOf9
  v9 := Tryz.zeroValue9
  t20 := Tryz.underlying20
  a20 := Tryz.isAgg20
  z20 := Tryz.sizeOf20
  v20 := Tryz.zeroValue20
  t37 := Tryz.underlying45
  a37 := Tryz.isAgg45
  z37 := Tryz.sizeOf45
  v37 := Tryz.zeroValue45
  t70 := Tryz.underlying44
  a70 := Tryz.isAgg44
  z70 := Tryz.sizeOf44
  v70 := Tryz.zeroValue44
  t72 := Tryz.underlying47
  a72 := Tryz.isAgg47
  z72 := Tryz.sizeOf47
  v72 := Tryz.zeroValue47
  t75 := Tryz.underlying49
  a75 := Tryz.isAgg49
  z75 := Tryz.sizeOf49
  v75 := Tryz.zeroValue49
  t164 := Tryz.underlying94
  a164 := Tryz.isAgg94
  z164 := Tryz.sizeOf94
  v164 := Tryz.zeroValue94 }
theorem bldX166 : Builder.Extra Tryz.prog bld166_ren := {
  sizeBuilder := by kernel_rfl
  liesBuilder := by kernel_rfl
  t5 := Tryz.underlying5
  a5 := Tryz.isAgg5
  z5 := Tryz.sizeOf5
  v5 := Tryz.zeroValue5
  infoByte := by kernel_rfl
  cellsByte := by kernel_rfl
  sizeByte := by kernel_rfl
  neB5 := by decide }
def bld167_ren : Go.Shelf.Ren := ⟨fun | 167 => 12 | 240 => 23 | 276 => 44 | n => n, fun | 0 => 0 | 4 => 4 | 5 => 5 | 9 => 9 | 20 => 20 | 37 => 45 | 70 => 44 | 72 => 47 | 75 => 49 | 164 => 94 | 80 => 58 | n => n, fun n => n⟩
theorem bld167 : Go.Proofs.Lays.n167 Tryz.prog bld167_ren := {
  mixed := by kernel_rfl
  f167 := Tryz.func12.trans (congrArg some (by kernel_rfl))
  f240 := Tryz.func23.trans (congrArg some (by kernel_rfl))
  f276 := Tryz.func44.trans (congrArg some (by kernel_rfl))
  t0 := Tryz.underlying0
  a0 := Tryz.isAgg0
  z0 := Tryz.sizeOf0
  v0 := Tryz.zeroValue0
  t4 := Tryz.underlying4
  a4 := Tryz.isAgg4
  z4 := Tryz.sizeOf4
  v4 := Tryz.zeroValue4
  t5 := Tryz.underlying5
  a5 := Tryz.isAgg5
  z5 := Tryz.sizeOf5
  v5 := Tryz.zeroValue5
  t9 := Tryz.underlying9
  a9 := Tryz.isAgg9
  z9 := Tryz.sizeOf9
  v9 := Tryz.zeroValue9
  t20 := Tryz.underlying20
  a20 := Tryz.isAgg20
  z20 := Tryz.sizeOf20
  v20 := Tryz.zeroValue20
  t37 := Tryz.underlying45
  a37 := Tryz.isAgg45
  z37 := Tryz.sizeOf45
  v37 := Tryz.zeroValue45
  t70 := Tryz.underlying44
  a70 := Tryz.isAgg44
  z70 := Tryz.sizeOf44
  v70 := Tryz.zeroValue44
  t72 := Tryz.underlying47
  a72 := Tryz.isAgg47
  z72 := Tryz.sizeOf47
  v72 := Tryz.zeroValue47
  t75 := Tryz.underlying49
  a75 := Tryz.isAgg49
  z75 := Tryz.sizeOf49
  v75 := Tryz.zeroValue49
  t164 := Tryz.underlying94
  a164 := Tryz.isAgg94
  z164 := Tryz.sizeOf94
  v164 := Tryz.zeroValue94 }
theorem bldX167 : Builder.Extra Tryz.prog bld167_ren := {
  sizeBuilder := by kernel_rfl
  liesBuilder := by kernel_rfl
  t5 := Tryz.underlying5
  a5 := Tryz.isAgg5
  z5 := Tryz.sizeOf5
  v5 := Tryz.zeroValue5
  infoByte := by kernel_rfl
  cellsByte := by kernel_rfl
  sizeByte := by kernel_rfl
  neB5 := by decide }
def bld169_ren : Go.Shelf.Ren := ⟨fun | 169 => 16 | n => n, fun | 0 => 0 | 3 => 3 | 9 => 9 | 37 => 45 | 70 => 44 | 72 => 47 | 127 => 75 | 5 => 5 | n => n, fun n => n⟩
theorem bld169 : Go.Proofs.Lays.n169 Tryz.prog bld169_ren := {
  mixed := by kernel_rfl
  f169 := Tryz.func16.trans (congrArg some (by kernel_rfl))
  t0 := Tryz.underlying0
  a0 := Tryz.isAgg0
  z0 := Tryz.sizeOf0
  v0 := Tryz.zeroValue0
  t3 := Tryz.underlying3
  a3 := Tryz.isAgg3
  z3 := Tryz.sizeOf3
  v3 := Tryz.zeroValue3
  t9 := Tryz.underlying9
  a9 := Tryz.isAgg9
  z9 := Tryz.sizeOf9
  v9 := Tryz.zeroValue9
  t37 := Tryz.underlying45
  a37 := Tryz.isAgg45
  z37 := Tryz.sizeOf45
  v37 := Tryz.zeroValue45
  t70 := Tryz.underlying44
  a70 := Tryz.isAgg44
  z70 := Tryz.sizeOf44
  v70 := Tryz.zeroValue44
  t72 := Tryz.underlying47
  a72 := Tryz.isAgg47
  z72 := Tryz.sizeOf47
  v72 := Tryz.zeroValue47
  t127 := Tryz.underlying75
  a127 := Tryz.isAgg75
  z127 := Tryz.sizeOf75
  v127 := Tryz.zeroValue75 }
theorem bldX169 : Builder.Extra Tryz.prog bld169_ren := {
  sizeBuilder := by kernel_rfl
  liesBuilder := by kernel_rfl
  t5 := Tryz.underlying5
  a5 := Tryz.isAgg5
  z5 := Tryz.sizeOf5
  v5 := Tryz.zeroValue5
  infoByte := by kernel_rfl
  cellsByte := by kernel_rfl
  sizeByte := by kernel_rfl
  neB5 := by decide }

/-- A builder in block b that holds the bytes l. -/
abbrev Bd (B b : Nat) (l : List UInt8) (w : World) : Prop := Lib.IsBuilderF 47 5 B b (Lib.byteCells l) w
theorem strCells_eq (s : ByteArray) : Lib.strCells s = Lib.byteCells s.data.toList := by
  simp [Lib.strCells, Lib.byteCells]
theorem bd_fresh (w : World) : Bd w.heap.size w.heap.size [] (w.alloc (.cells #[.pointer none, .slice none 0 0] 47)) := Lib.IsBuilderF.of (Lib.fresh_isBuilder 47 5 w)
theorem bd_below {B b : Nat} {l : List UInt8} {w w' : World} (h : Bd B b l w) {B' : Nat} (hB' : B' = w.heap.size) (hb : Below B' w w') : Bd B b l w' := by
  subst hB'
  have key : ∀ p, Lib.BuilderAtF 47 5 B b p (Lib.byteCells l) w → Lib.BuilderAtF 47 5 B b p (Lib.byteCells l) w' := by
    rintro p ⟨k1, v, k2, k3, k4⟩
    refine ⟨k1, v, (hb.block b (Array.getElem?_eq_some_iff.1 k2).1).trans k2, ⟨k3.1, ?_⟩, k4⟩
    rcases k3.2 with h2 | ⟨g, cap, cur, fz, hv, hg, hh, r⟩
    · exact .inl h2
    · exact .inr ⟨g, cap, cur, fz, hv, hg, (hb.block g (Array.getElem?_eq_some_iff.1 hh).1).trans hh, r⟩
  exact h.elim (fun k => .inl (key _ k)) (fun k => .inr (key _ k))
theorem Builder_WriteString (B b : Nat) (l : List UInt8) (s : ByteArray) (w : World) (h : Bd B b l w) (hlen : l.length + s.size ≤ 140737488355328) (hBw : B ≤ w.heap.size) :
    Calls Tryz.prog 11 #[.pointer (some ⟨b, 0, none⟩), .string s] w fun e w' => e = .returned (.tuple #[.int .i64 s.size, .nilIface]) ∧ Bd B b (l ++ s.data.toList) w' ∧ Below B w w' ∧ Lib.OthersKept 5 (some b) w w' := by
  refine (Any.Builder_WriteString_k bld166 bldX166 B b (Lib.byteCells l) s w h (by rw [Lib.byteCells_length]; exact hlen) hBw).mono ?_
  rintro e w' ⟨rfl, h1, h2, h3⟩
  refine ⟨rfl, ?_, h2, h3⟩
  rw [strCells_eq, ← Lib.byteCells_append] at h1
  exact Or.inr h1
theorem Builder_WriteByte (B b : Nat) (l : List UInt8) (c : UInt8) (w : World) (h : Bd B b l w) (hlen : l.length + 1 ≤ 140737488355328) (hBw : B ≤ w.heap.size) :
    Calls Tryz.prog 12 #[.pointer (some ⟨b, 0, none⟩), .int .u8 c.toNat] w fun e w' => e = .returned .nilIface ∧ Bd B b (l ++ [c]) w' ∧ Below B w w' ∧ Lib.OthersKept 5 (some b) w w' := by
  refine (Any.Builder_WriteByte_k bld167 bldX167 B b (Lib.byteCells l) c.toNat w h (by rw [Lib.byteCells_length]; exact hlen) hBw).mono ?_
  rintro e w' ⟨rfl, h1, h2, h3⟩
  refine ⟨rfl, ?_, h2, h3⟩
  rw [show Bd B b (l ++ [c]) w' = Lib.IsBuilderF 47 5 B b (Lib.byteCells (l ++ [c])) w' from rfl, Lib.byteCells_append]
  exact Or.inr h1
theorem Builder_String (B b : Nat) (l : List UInt8) (w : World) (h : Bd B b l w) (hBw : B ≤ w.heap.size) :
    Calls Tryz.prog 16 #[.pointer (some ⟨b, 0, none⟩)] w fun e w' => e = .returned (.string ⟨l.toArray⟩) ∧ Bd B b l w' ∧ Below B w w' ∧ Lib.OthersKept 5 (some b) w w' :=
  Any.Builder_String_any_k bld169 bldX169 B b l w h hBw
end Go.Proofs.YtknonabeagbjeaaGreatDoor
namespace Go.Proofs.YtknonabeagbjeaaGreatDoor
open Go.RowKit

theorem blk_others {w w' : World} {a q : Nat} {t : TypeId} {cs : Array Value} (h : Blk w a t cs) (ha : a ≠ q) (ht : t ≠ 5) (hk : Lib.OthersKept 5 (some q) w w') : Blk w' a t cs :=
  hk a _ h (fun e => ha (by injection e)) (fun c fz e => ht (by injection e))
def joinB (ps : List ByteArray) : List UInt8 := ps.flatMap fun s => s.data.toList
theorem joinB_snoc (ps : List ByteArray) (k : Nat) (h : k < ps.length) : joinB (ps.take (k + 1)) = joinB (ps.take k) ++ ps[k].data.toList := by
  unfold joinB
  rw [List.take_succ_eq_append_getElem h, List.flatMap_append]
  simp
theorem joinB_take (ps : List ByteArray) (k : Nat) (h : k < ps.length) : (joinB (ps.take k)).length + ps[k].size ≤ (joinB ps).length := by
  have e : joinB ps = joinB (ps.take (k + 1)) ++ joinB (ps.drop (k + 1)) := by
    unfold joinB
    rw [← List.flatMap_append, List.take_append_drop]
  rw [e, joinB_snoc ps k h, List.length_append, List.length_append]
  have e2 : ps[k].data.toList.length = ps[k].size := rfl
  omega

set_option maxHeartbeats 1000000 in
theorem text_line (ps : List ByteArray) (q a c : Nat) (l : List UInt8) (w : World) (hB : Bd q q l w) (hP : Blk w a 9 (ps.map Value.string).toArray) (ha : a ≠ q) (hm : ps.length ≤ 1000) (hl : l.length + (joinB ps).length + 1 ≤ 140737488355328) (hq : q ≤ w.heap.size) :
    Calls Tryz.prog 10 #[.slice (some ⟨a, 0, none⟩) ps.length c, .pointer (some ⟨q, 0, none⟩)] w fun e w' => e = .returned (.tuple #[]) ∧ Bd q q (l ++ joinB ps ++ [10]) w' ∧ Below q w w' ∧ Lib.OthersKept 5 (some q) w w' := by
  have HB := Lib.hid hB
  clear hB
  go_enter Tryz.func10, Tryz.ntmps10
  go_wp2_with fail
  go_loopw [7] (fun i wr => ∃ k : Nat, k ≤ ps.length ∧ i = .int .i64 k ∧ Bd q q (l ++ joinB (ps.take k)) wr ∧ Below q w wr ∧ Lib.OthersKept 5 (some q) w wr) (fun i _ => ps.length - (intOf i).toNat)
  case atStart => exact ⟨0, Nat.zero_le _, rfl, by rw [List.take_zero]; unfold joinB; rw [List.flatMap_nil, List.append_nil]; exact HB.out, Below.refl _ _, Lib.OthersKept.refl _ _ _⟩
  case round =>
    clear HB
    obtain ⟨k, hk, rfl, hB, hb, hO⟩ := hrel
    have hsz := hb.size
    have HB := Lib.hid hB
    have HO := Lib.hid hO
    have HBe := Lib.hid hb
    clear hB hO hb
    by_cases hlt : k < ps.length
    · have hkI : (k : Int) < ps.length := by omega
      have hmI : (ps.length : Int) ≤ 1000 := by omega
      have hk0 : (0 : Int) ≤ k := by omega
      have hP2 := blk_others hP ha (by decide) HO.out
      have hc := (hP2.cell k).trans (show (ps.map Value.string).toArray[k]? = some (.string ps[k]) by simp [List.getElem?_eq_getElem hlt])
      have HS := Lib.hid (joinB_snoc ps k hlt)
      have HT := Lib.hid (joinB_take ps k hlt)
      obtain ⟨x, hx⟩ : ∃ x, ps[k] = x := ⟨_, rfl⟩
      rw [hx] at hc HS HT
      clear hx hP2
      go_wp2_with fail
      refine (Builder_WriteString q q _ x wr HB.out (by have h := HT.out; rw [List.length_append]; omega) (Nat.le_trans hq hsz)).mono ?_
      rintro e w2 ⟨rfl, B2, b2, o2⟩
      rw [List.append_assoc, ← HS.out] at B2
      have HB2 := Lib.hid B2
      have Hb2 := Lib.hid (HBe.out.trans b2)
      have HO2 := Lib.hid (HO.out.trans o2)
      clear B2 b2 o2 hc
      go_wp2_with fail
      go_roundw
      case rel => exact ⟨k + 1, hlt, by simp, HB2.out, Hb2.out, HO2.out⟩
      case measure => simp [intOf]; omega
    · obtain rfl : k = ps.length := by omega
      rw [List.take_of_length_le (Nat.le_refl _)] at HB
      go_wp2_with fail
      refine (Builder_WriteByte q q _ 10 wr HB.out (by rw [List.length_append]; omega) (Nat.le_trans hq hsz)).mono ?_
      rintro e w2 ⟨rfl, B2, b2, o2⟩
      have HB2 := Lib.hid B2
      have Hb2 := Lib.hid (HBe.out.trans b2)
      have HO2 := Lib.hid (HO.out.trans o2)
      clear B2 b2 o2
      go_wp2_with fail
      go_returns
      exact ⟨rfl, HB2.out, Hb2.out, HO2.out⟩
end Go.Proofs.YtknonabeagbjeaaGreatDoor
namespace Go.Proofs.YtknonabeagbjeaaGreatDoor
open Go.RowKit

theorem tail_len : ∀ (l : List (ByteArray × Nat)) (s : List UInt8), s.length ≤ 2 → (∀ p ∈ l, okPre p.1 ∧ p.2 < 4294967296) → (tailL s l).length ≤ 13 * l.length
  | [], _, _, _ => Nat.zero_le _
  | (p, n) :: l, s, hs, h => by
    have ih := tail_len l [44, 32] (by decide) (fun q hq => h q (List.mem_cons_of_mem _ hq))
    obtain ⟨h1, h2⟩ := h (p, n) List.mem_cons_self
    have hd := dec_length32 n h2
    have hp : p.data.toList.length ≤ 1 := by rcases h1 with rfl | rfl | rfl <;> decide
    unfold tailL
    simp only [List.length_append, List.length_cons]
    omega
theorem fldJ_len (x : UInt32) (n : Nat) : (fldJ x n).length ≤ 3 := by
  unfold fldJ
  cases shA (opD x) <;> cases shB (opD x) <;> (by_cases h1 : shC (opD x) = 1 <;> by_cases h2 : shC (opD x) = 2 <;> simp [h1, h2])
theorem fldJ_num (x : UInt32) (n : Nat) : ∀ p ∈ fldJ x n, p.2 < 4294967296 := by
  intro p hp
  have h := List.mem_map_of_mem (f := Prod.snd) hp
  rw [fldJ_snd] at h
  have ha : (aD x).toNat < 65536 := by unfold aD; omega
  have hb : (bD x).toNat < 65536 := by unfold bD; omega
  have hc : (cD x).toNat < 65536 := by unfold cD; omega
  unfold fieldsB at h
  generalize p.2 = v at h ⊢
  revert h
  cases shA (opD x) <;> cases shB (opD x) <;> (by_cases h1 : shC (opD x) = 1 <;> by_cases h2 : shC (opD x) = 2 <;> simp [h1, h2] <;> omega)
theorem item_len (x : UInt32) (n : Nat) : (itemL x n).length ≤ 50 := by
  unfold itemL
  split
  · rename_i h
    obtain ⟨k, k1, _, e⟩ := dec_op h
    have h1 := name_size k k1
    have h2 := tail_len (fldJ x n) [32] (by decide) (fun p hp => ⟨fldJ_pre x n p hp, fldJ_num x n p hp⟩)
    have h3 := fldJ_len x n
    rw [List.length_append, e]
    omega
  · have := dec_length32 x.toNat x.toNat_lt
    simp only [List.length_append, List.length_cons, List.length_nil]
    omega
theorem lbl_len (i : Nat) (hi : i < 4294967296) : (lblL i).length ≤ 12 := by
  have := dec_length32 i hi
  unfold lblL
  simp only [List.length_append, List.length_cons, List.length_nil]
  omega
theorem row_len (code : List UInt32) (i : Nat) (hi : i < 4294967296) : (lfs (rowP code i)).length ≤ 80 := by
  have h1 := lbl_len i hi
  have h2 := item_len (code.getD i 0) code.length
  unfold rowP
  split <;> simp [lfs] <;> simp only [List.getD_eq_getElem?_getD] at h2 <;> omega
theorem hdr_len (d : Nat) (hd : d < 4294967296) : (hdrL d).length ≤ 16 := by
  have := dec_length32 d hd
  unfold hdrL
  simp only [List.length_append, List.length_cons, List.length_nil]
  omega
theorem text_len (code : List UInt32) (d : Nat) (hd : d < 4294967296) : ∀ k, k < 4294967296 → (textP code d k).length ≤ 20 + 80 * k
  | 0, _ => by
    have h := hdr_len d hd
    show (lfs [hdrL d]).length ≤ _
    simp only [lfs, List.flatMap_cons, List.flatMap_nil, List.length_append, List.length_cons, List.length_nil]
    omega
  | k + 1, h => by
    have ih := text_len code d hd k (by omega)
    have hr := row_len code k (by omega)
    rw [textP_succ, List.length_append]
    omega

/-- What the writing of a text holds: the image's box, the builder, the set. -/
structure Lx (w : World) (A : Option Addr) (code : List UInt32) (c : Nat) (d : Int) (q b : Nat) (l : List UInt8) (W : World) : Prop where
  g : Tg w A code.length c d W
  bd : Bd q q l W
  m : Tm W b code code.length
  lt : w.heap.size < q
  ne : b ≠ q
  qw : q < W.heap.size
section
variable {w W W' : World} {A : Option Addr} {code : List UInt32} {c q b : Nat} {d : Int} {l l' : List UInt8}
theorem Lx.below (h : Lx w A code c d q b l W) {B : Nat} (hB : B = W.heap.size) (hb : Below B W W') : Lx w A code c d q b l W' := by
  subst hB
  exact ⟨h.g.below hb, bd_below h.bd rfl hb, h.m.below rfl hb, h.lt, h.ne, Nat.lt_of_lt_of_le h.qw hb.size⟩
theorem Lx.alloc (h : Lx w A code c d q b l W) (o : Obj) : Lx w A code c d q b l (W.alloc o) := h.below rfl ((Below.refl _ W).alloc (Nat.le_refl _) o)
theorem Lx.put (h : Lx w A code c d q b l W) (B' : Bd q q l' W') (hb : Below q W W') (hO : Lib.OthersKept 5 (some q) W W') : Lx w A code c d q b l' W' :=
  ⟨⟨h.g.m.below hb h.lt, h.g.bel.trans (hb.mono (Nat.le_of_lt h.lt))⟩, B', h.m.others h.ne hO, h.lt, h.ne, Nat.lt_of_lt_of_le h.qw hb.size⟩
end
theorem dec_str (n : Nat) : (⟨(Lib.decDigits n).toArray⟩ : ByteArray).data.toList = Lib.decDigits n := rfl

theorem listing_Text_bad (A : Option Addr) (n c : Nat) (d : Int) (w : World) (hr : rightB n d = false) :
    Calls Tryz.prog 5 #[.agg #[.slice A n c, .int .i64 d]] w fun e w' => e = .returned (.tuple #[.string ⟨#[]⟩, .int .i64 1]) ∧ Below w.heap.size w w' := by
  have T0 := Tg.new w A n c d
  have t0 := T0.cells.1
  have t1 := T0.cells.2
  have KR : Hid (∀ W : World, Calls Tryz.prog 6 #[.agg #[.slice A n c, .int .i64 d]] W fun e w' => e = .returned (.bool false) ∧ Below W.heap.size W w') := fun W => by
    have h := image_Right A n c d W
    rw [hr] at h
    exact h
  go_enter Tryz.func5, Tryz.ntmps5
  go_wp2_with fail
  refine (KR.out _).mono ?_
  rintro e w1 ⟨rfl, hb1⟩
  have b1 := (T0.below hb1).bel
  go_wp2_with fail
  go_returns
  exact ⟨rfl, b1⟩
end Go.Proofs.YtknonabeagbjeaaGreatDoor
