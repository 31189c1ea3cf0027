/- Layer 11: the whole text, walked: the program's. -/
import Derived.Test.YtneebohaanjejaaDoorLn
import Derived.Test.YtneebohaanjejaaDoorLw
import Derived.Test.YtneebohaanjejaaDoorLt
import Derived.Test.YtneebohaanjejaaDoorImgP
namespace Go.Proofs.YtneebohaanjejaaDoor
open Go.RowKit

theorem tail_len : ∀ (l : List (ByteArray × Nat)) (s : List UInt8), s.length ≤ 2 → (∀ p ∈ l, okPre p.1 ∧ p.2 < 4294967296) → (tailL s l).length ≤ 13 * l.length
  | [], _, _, _ => Nat.zero_le _
  | (p, n) :: l, s, hs, h => by
    have ih := tail_len l [44, 32] (by decide) (fun q hq => h q (List.mem_cons_of_mem _ hq))
    obtain ⟨h1, h2⟩ := h (p, n) List.mem_cons_self
    have hd := dec_length32 n h2
    have hp : p.data.toList.length ≤ 1 := by rcases h1 with rfl | rfl | rfl <;> decide
    unfold tailL
    simp only [List.length_append, List.length_cons]
    omega
theorem fldJ_len (x : UInt32) (n : Nat) : (fldJ x n).length ≤ 3 := by
  unfold fldJ
  cases shA (opD x) <;> cases shB (opD x) <;> (by_cases h1 : shC (opD x) = 1 <;> by_cases h2 : shC (opD x) = 2 <;> simp [h1, h2])
theorem fldJ_num (x : UInt32) (n : Nat) : ∀ p ∈ fldJ x n, p.2 < 4294967296 := by
  intro p hp
  have h := List.mem_map_of_mem (f := Prod.snd) hp
  rw [fldJ_snd] at h
  have ha : (aD x).toNat < 65536 := by unfold aD; omega
  have hb : (bD x).toNat < 65536 := by unfold bD; omega
  have hc : (cD x).toNat < 65536 := by unfold cD; omega
  unfold fieldsB at h
  generalize p.2 = v at h ⊢
  revert h
  cases shA (opD x) <;> cases shB (opD x) <;> (by_cases h1 : shC (opD x) = 1 <;> by_cases h2 : shC (opD x) = 2 <;> simp [h1, h2] <;> omega)
theorem item_len (x : UInt32) (n : Nat) : (itemL x n).length ≤ 50 := by
  unfold itemL
  split
  · rename_i h
    obtain ⟨k, k1, _, e⟩ := dec_op h
    have h1 := name_size k k1
    have h2 := tail_len (fldJ x n) [32] (by decide) (fun p hp => ⟨fldJ_pre x n p hp, fldJ_num x n p hp⟩)
    have h3 := fldJ_len x n
    rw [List.length_append, e]
    omega
  · have := dec_length32 x.toNat x.toNat_lt
    simp only [List.length_append, List.length_cons, List.length_nil]
    omega
theorem lbl_len (i : Nat) (hi : i < 4294967296) : (lblL i).length ≤ 12 := by
  have := dec_length32 i hi
  unfold lblL
  simp only [List.length_append, List.length_cons, List.length_nil]
  omega
theorem row_len (code : List UInt32) (i : Nat) (hi : i < 4294967296) : (lfs (rowP code i)).length ≤ 80 := by
  have h1 := lbl_len i hi
  have h2 := item_len (code.getD i 0) code.length
  unfold rowP
  split <;> simp [lfs] <;> simp only [List.getD_eq_getElem?_getD] at h2 <;> omega
theorem hdr_len (d : Nat) (hd : d < 4294967296) : (hdrL d).length ≤ 16 := by
  have := dec_length32 d hd
  unfold hdrL
  simp only [List.length_append, List.length_cons, List.length_nil]
  omega
theorem text_len (code : List UInt32) (d : Nat) (hd : d < 4294967296) : ∀ k, k < 4294967296 → (textP code d k).length ≤ 20 + 80 * k
  | 0, _ => by
    have h := hdr_len d hd
    show (lfs [hdrL d]).length ≤ _
    simp only [lfs, List.flatMap_cons, List.flatMap_nil, List.length_append, List.length_cons, List.length_nil]
    omega
  | k + 1, h => by
    have ih := text_len code d hd k (by omega)
    have hr := row_len code k (by omega)
    rw [textP_succ, List.length_append]
    omega

/-- What the writing of a text holds: the image's box, the builder, the set. -/
structure Lx (w : World) (A : Option Addr) (code : List UInt32) (c : Nat) (d : Int) (q b : Nat) (l : List UInt8) (W : World) : Prop where
  g : Tg w A code.length c d W
  bd : Bd q q l W
  m : Tm W b code code.length
  lt : w.heap.size < q
  ne : b ≠ q
  qw : q < W.heap.size
section
variable {w W W' : World} {A : Option Addr} {code : List UInt32} {c q b : Nat} {d : Int} {l l' : List UInt8}
theorem Lx.below (h : Lx w A code c d q b l W) {B : Nat} (hB : B = W.heap.size) (hb : Below B W W') : Lx w A code c d q b l W' := by
  subst hB
  exact ⟨h.g.below hb, bd_below h.bd rfl hb, h.m.below rfl hb, h.lt, h.ne, Nat.lt_of_lt_of_le h.qw hb.size⟩
theorem Lx.alloc (h : Lx w A code c d q b l W) (o : Obj) : Lx w A code c d q b l (W.alloc o) := h.below rfl ((Below.refl _ W).alloc (Nat.le_refl _) o)
theorem Lx.put (h : Lx w A code c d q b l W) (B' : Bd q q l' W') (hb : Below q W W') (hO : Lib.OthersKept 5 (some q) W W') : Lx w A code c d q b l' W' :=
  ⟨⟨h.g.m.below hb h.lt, h.g.bel.trans (hb.mono (Nat.le_of_lt h.lt))⟩, B', h.m.others h.ne hO, h.lt, h.ne, Nat.lt_of_lt_of_le h.qw hb.size⟩
end
theorem dec_str (n : Nat) : (⟨(Lib.decDigits n).toArray⟩ : ByteArray).data.toList = Lib.decDigits n := rfl

theorem listing_Text_bad (A : Option Addr) (n c : Nat) (d : Int) (w : World) (hr : rightB n d = false) :
    Calls Tryd.prog 22 #[.agg #[.slice A n c, .int .i64 d]] w fun e w' => e = .returned (.tuple #[.string ⟨#[]⟩, .int .i64 1]) ∧ Below w.heap.size w w' := by
  have T0 := Tg.new w A n c d
  have t0 := T0.cells.1
  have t1 := T0.cells.2
  have KR : Hid (∀ W : World, Calls Tryd.prog 49 #[.agg #[.slice A n c, .int .i64 d]] W fun e w' => e = .returned (.bool false) ∧ Below W.heap.size W w') := fun W => by
    have h := image_Right A n c d W
    rw [hr] at h
    exact h
  go_enter Tryd.func22, Tryd.ntmps22
  go_wp2_with fail
  refine (KR.out _).mono ?_
  rintro e w1 ⟨rfl, hb1⟩
  have b1 := (T0.below hb1).bel
  go_wp2_with fail
  go_returns
  exact ⟨rfl, b1⟩
end Go.Proofs.YtneebohaanjejaaDoor
