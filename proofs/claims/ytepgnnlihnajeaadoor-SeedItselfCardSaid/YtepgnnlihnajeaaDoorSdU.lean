/- Layer 50: the seed's text: what it is, plain; walked. -/
import Derived.Test.YtepgnnlihnajeaaDoorSdT
import Derived.Test.YtepgnnlihnajeaaDoorSdX
namespace Go.Proofs.YtepgnnlihnajeaaDoor
open Go.RowKit

/-- The text's lines, as many of the code's as are asked for. -/
def bodyL : Nat → List UInt8
  | 0 => lineL [83, 69, 69, 68] [97, 110, 32, 105, 109, 97, 103, 101, 32, 98, 101, 103, 105, 110, 115] ++ lineL (leBytes [34]) [104, 111, 119, 32, 109, 97, 110, 121, 32, 119, 111, 114, 100, 115, 32, 111, 102, 32, 99, 111, 100, 101, 32, 116, 104, 101, 114, 101, 32, 97, 114, 101] ++ lineL (leBytes [0]) [110, 111, 32, 109, 101, 109, 111, 114, 121]
  | j + 1 => bodyL j ++ lineL (leBytes [seedW.getD j 0]) (noteL.getD j ⟨#[]⟩).data.toList
theorem body_len : ∀ j, j < 35 → (bodyL j).length ≤ 4000 := by decide +kernel
theorem note_len : ∀ j, j < 34 → (noteL.getD j ⟨#[]⟩).size ≤ 100 := by decide +kernel
theorem note_plain : ∀ j, j < 34 → (noteL.getD j ⟨#[]⟩).data.toList.all (fun x => decide (x.toNat ≠ 10)) = true := by decide +kernel
theorem hexB_load : ∀ (l : List UInt8) (o : List UInt8), (hexB l).foldl lstep ⟨false, -1, o⟩ = ⟨false, -1, o ++ l⟩
  | [], o => by simp [hexB]
  | b :: r, o => by
    have hb := b.toNat_lt
    have k1 : lstep ⟨false, -1, o⟩ (smallD (b.toNat / 16)) = ⟨false, (b.toNat / 16 : Nat), o⟩ := by
      have e := smallD_toNat (b.toNat / 16) (by omega)
      have d := digV_small (b.toNat / 16) (by omega)
      have u : smallN (b.toNat / 16) ≠ 10 ∧ smallN (b.toNat / 16) ≠ 35 := by unfold smallN; split <;> omega
      rw [lstep_high (by rw [e]; exact u.1) (by rw [e]; exact u.2) (by rw [d]; omega) (by decide), d]
    have k2 : lstep ⟨false, (b.toNat / 16 : Nat), o⟩ (smallD (b.toNat % 16)) = ⟨false, -1, o ++ [b]⟩ := by
      have e := smallD_toNat (b.toNat % 16) (by omega)
      have d := digV_small (b.toNat % 16) (by omega)
      have u : smallN (b.toNat % 16) ≠ 10 ∧ smallN (b.toNat % 16) ≠ 35 := by unfold smallN; split <;> omega
      have v : UInt8.ofNat ((((b.toNat / 16 : Nat) : Int)).toNat * 16 + (((b.toNat % 16 : Nat) : Int)).toNat) = b := by
        apply UInt8.toNat_inj.1
        rw [UInt8.toNat_ofNat']
        omega
      rw [lstep_low (by rw [e]; exact u.1) (by rw [e]; exact u.2) (by rw [d]; omega) (by omega), d, v]
    have k3 : lstep ⟨false, -1, o ++ [b]⟩ 32 = ⟨false, -1, o ++ [b]⟩ := rfl
    have ih := hexB_load r (o ++ [b])
    unfold hexB at ih ⊢
    rw [List.flatMap_cons, List.foldl_append]
    simp only [List.foldl_cons, List.foldl_nil, k1, k2, k3, ih, List.append_assoc, List.singleton_append]
theorem note_load : ∀ (n : List UInt8) (o : List UInt8), n.all (fun x => decide (x.toNat ≠ 10)) = true → n.foldl lstep ⟨true, -1, o⟩ = ⟨true, -1, o⟩
  | [], _, _ => rfl
  | x :: r, o, h => by
    rw [List.all_cons, Bool.and_eq_true] at h
    have k : lstep ⟨true, -1, o⟩ x = ⟨true, -1, o⟩ := by
      unfold lstep
      rw [if_neg (of_decide_eq_true h.1), if_pos rfl]
    rw [List.foldl_cons, k, note_load r o h.2]
theorem line_load (l n o : List UInt8) (h : n.all (fun x => decide (x.toNat ≠ 10)) = true) : (lineL l n).foldl lstep ⟨false, -1, o⟩ = ⟨false, -1, o ++ l⟩ := by
  unfold lineL
  rw [List.foldl_append, List.foldl_append, List.foldl_append, hexB_load]
  have k : [(35 : UInt8), 32].foldl lstep ⟨false, -1, o ++ l⟩ = ⟨true, -1, o ++ l⟩ := rfl
  rw [k, note_load _ _ h]
  rfl
theorem body_load : ∀ j, j ≤ 34 → loadS (bodyL j) = ⟨false, -1, [83, 69, 69, 68] ++ leBytes [34] ++ leBytes [0] ++ leBytes (seedW.take j)⟩
  | 0, _ => by
    unfold loadS bodyL l0
    rw [List.foldl_append, List.foldl_append, line_load _ _ _ (by decide), line_load _ _ _ (by decide), line_load _ _ _ (by decide)]
    rfl
  | j + 1, h => by
    have hl : j < seedW.length := by rw [seedW_len]; exact h
    have ih := body_load j (by omega)
    unfold loadS at ih ⊢
    rw [show bodyL (j + 1) = bodyL j ++ lineL (leBytes [seedW.getD j 0]) (noteL.getD j ⟨#[]⟩).data.toList from rfl, List.foldl_append, ih, line_load _ _ _ (note_plain j h), List.getD_eq_getElem?_getD, List.getElem?_eq_getElem hl, leBytes_snoc _ _ hl, Option.getD_some, show leBytes [seedW[j]] = le4 seedW[j] from List.append_nil _, ← List.append_assoc]
theorem loads_of {B o : List UInt8} (h : loadS B = ⟨false, -1, o⟩) : loadL B = o := by
  unfold loadL
  rw [h]
theorem put_seed {l : List UInt32} (h : l.length = 34) : [83, 69, 69, 68] ++ leBytes [34] ++ leBytes [0] ++ leBytes (l.take 34) = putI l 0 := by
  have h2 : leBytes [34] ++ leBytes [0] = leBytes [UInt32.ofNat 34, UInt32.ofNat (0 : Int).toNat] := by decide
  unfold putI
  rw [h, ← h2, List.take_of_length_le (by rw [h]; exact Nat.le_refl _)]
  simp only [List.append_assoc]
theorem body_loads : loadL (bodyL 34) = putI seedW 0 := (loads_of (body_load 34 (Nat.le_refl 34))).trans (put_seed seedW_len)

/-- The text's builder in block q; the code's block ahead of it stays, and the words. -/
structure Tx (w : World) (q b off : Nat) (l : List UInt8) (W : World) : Prop where
  c : Blk W w.heap.size 44 codeA
  ws : ∀ i u, (seedW.map wv)[i]? = some u → W.cell? ⟨b, off + i, none⟩ = some u
  bd : Bd q q l W
  bel : Below w.heap.size w W
  lt : w.heap.size < q
  bq : b < q
  qw : q < W.heap.size
section
variable {w W W' : World} {q b off : Nat} {l l' : List UInt8}
theorem Tx.put (h : Tx w q b off l W) (hb : Below q W W') (B' : Bd q q l' W') : Tx w q b off l' W' :=
  ⟨h.c.below hb h.lt, fun i u hu => (hb.cell (p := ⟨b, off + i, none⟩) h.bq).trans (h.ws i u hu), B', h.bel.trans (hb.mono (Nat.le_of_lt h.lt)), h.lt, h.bq, Nat.lt_of_lt_of_le h.qw hb.size⟩
theorem Tx.below (h : Tx w q b off l W) {B : Nat} (hB : B = W.heap.size) (hb : Below B W W') : Tx w q b off l W' :=
  h.put (hb.mono (by rw [hB]; exact Nat.le_of_lt h.qw)) (bd_below h.bd hB hb)
theorem Tx.alloc (h : Tx w q b off l W) (o : Obj) : Tx w q b off l (W.alloc o) := h.below rfl ((Below.refl _ W).alloc (Nat.le_refl _) o)
theorem Tx.drew (h : Tx w q b off l W) : Tx w q b off l W.drew := h.below rfl (Below.refl _ W).drew
end
theorem sl_one (W : World) (E : TypeId) (x : UInt32) : Sl (W.alloc (.cells #[.int .u32 x.toNat] E)) (W.alloc (.cells #[.int .u32 x.toNat] E)).heap.size (some ⟨W.heap.size, 0, none⟩) 1 ([x].map wv) :=
  ⟨rfl, fun _ => ⟨W.heap.size, 0, rfl, by simp, fun i u hu => by
    rw [Nat.zero_add, World.cell?_alloc_mark]
    match i, hu with
    | 0, hu => exact hu⟩⟩
theorem le1_size {s : ByteArray} {x : UInt32} (h : s.data.toList = leBytes [x]) : s.size = 4 := by
  have e : s.data.toList.length = s.size := rfl
  rw [h, leBytes_length] at e; simpa using e.symm
end Go.Proofs.YtepgnnlihnajeaaDoor
