/- Layer 50: a line of the seed's text, walked: bytes in digits, a blank behind each two, a note. -/
/- Layer 2, plain: the lenient reading. No program in sight. -/
import Derived.Test.YthfdjfgmgoafnaaDoorBld
import Derived.Test.YthfdjfgmgoafnaaDoorHxA
namespace Go.Proofs.YthfdjfgmgoafnaaDoor
open Go.RowKit

def hexB (l : List UInt8) : List UInt8 := l.flatMap fun b => [smallD (b.toNat / 16), smallD (b.toNat % 16), 32]
def lineL (l n : List UInt8) : List UInt8 := hexB l ++ [35, 32] ++ n ++ [10]
theorem hexB_length (l : List UInt8) : (hexB l).length = 3 * l.length := by
  induction l with
  | nil => rfl
  | cons b r ih => unfold hexB at ih ⊢; rw [List.flatMap_cons, List.length_append, ih]; simp; omega
theorem hexB_snoc (l : List UInt8) (k : Nat) (h : k < l.length) : hexB (l.take (k + 1)) = hexB (l.take k) ++ hexT [l[k]] ++ [32] := by
  unfold hexB hexT
  rw [List.take_succ_eq_append_getElem h, List.flatMap_append]
  simp

theorem ba_appS (a b : ByteArray) : (a ++ b).data.toList = a.data.toList ++ b.data.toList := by
  rw [ByteArray.data_append, Array.toList_append]
set_option maxHeartbeats 1000000 in
theorem seed_line (s note : ByteArray) (w : World) (hs : s.size ≤ 1000) (hn : note.size ≤ 1000) (hT : Small w) :
    Calls Tryd.prog 15 #[.string s, .string note] w fun e w' => (∃ t, e = .returned (.string t) ∧ Hid (t.data.toList = lineL s.data.toList note.data.toList)) ∧ Below w.heap.size w w' := by
  have hlen : s.data.toList.length = s.size := rfl
  have h0 := bd_fresh w
  have hb0 := (Below.refl _ w).alloc (Nat.le_refl _) (.cells #[.pointer none, .slice none 0 0] 40)
  have H0 := Lib.hid h0
  clear h0
  go_enter Tryd.func15, Tryd.ntmps15
  go_wp2_with fail
  go_loopw [9] (fun i wr => ∃ k : Nat, k ≤ s.size ∧ i = .int .i64 k ∧ Bd w.heap.size w.heap.size (hexB (s.data.toList.take k)) wr ∧ Below w.heap.size w wr) (fun i _ => s.size - (intOf i).toNat)
  case atStart => exact ⟨0, Nat.zero_le _, rfl, H0.out, hb0⟩
  case round =>
    clear H0 hb0
    obtain ⟨k, hk, rfl, hB, hb⟩ := hrel
    have hsz := hb.size
    have HB := Lib.hid hB
    have HBw := Lib.hid hb
    have hT1 := hT.below hb hT.1
    clear hB hb
    by_cases hlt : k < s.size
    · have hkI : (k : Int) < s.size := by omega
      have hk0 : (0 : Int) ≤ k := by omega
      have hkl : (k : Int) + 1 ≤ s.size := by omega
      obtain ⟨x, hx⟩ : ∃ x, s.extract k (k + 1) = x := ⟨_, rfl⟩
      have hx1 : x.data.toList = [s.data.toList[k]'hlt] := by
        rw [← hx, Lib.extract_data, show k + 1 - k = 1 by omega, List.drop_eq_getElem_cons (show k < s.data.toList.length from hlt)]
        rfl
      have hxz : x.size = 1 := congrArg List.length hx1
      have HS := Lib.hid (hexB_snoc s.data.toList k hlt)
      rw [← hx1] at HS
      have HX := Lib.hid hxz
      clear hx1 hxz
      go_wp2_with fail
      refine (hex_Text x wr (by rw [HX.out]; omega) hT1).mono ?_
      rintro e w1 ⟨⟨t, rfl, ht⟩, hb1⟩
      have htz : t.size = 2 := by
        have e2 : t.data.toList.length = t.size := rfl
        have e3 : x.data.toList.length = x.size := rfl
        rw [ht.out, hexT_length, e3, HX.out] at e2
        omega
      have HTZ := Lib.hid htz
      have hlen1 := hexB_length (s.data.toList.take k)
      rw [List.length_take, hlen] at hlen1
      have B1 := bd_below HB.out rfl hb1
      have b1 := HBw.out.trans (hb1.mono hsz)
      have H1 := Lib.hid hlen1
      clear htz hlen1 hb1
      go_wp2_with fail
      refine (Builder_WriteString _ _ _ t w1 B1 (by rw [HTZ.out, H1.out]; omega) b1.size).mono ?_
      rintro e w2 ⟨rfl, B2, b2, -⟩
      go_wp2_with fail
      refine (Builder_WriteString _ _ _ ⟨#[32]⟩ w2 B2 (by rw [List.length_append, show t.data.toList.length = t.size from rfl, HTZ.out, H1.out, show (⟨#[32]⟩ : ByteArray).size = 1 from rfl]; omega) (Nat.le_trans b1.size b2.size)).mono ?_
      rintro e w3 ⟨rfl, B3, b3, -⟩
      have b4 := Lib.hid ((b1.trans b2).trans b3)
      rw [ht.out] at B3
      have B4 : Hid (Bd w.heap.size w.heap.size (hexB (s.data.toList.take (k + 1))) w3) := by unfold Hid; rw [HS.out]; exact B3
      clear B1 B2 B3 b1 b2 b3 hT1
      go_wp2_with fail
      go_roundw
      case rel => exact ⟨k + 1, hlt, by simp, B4.out, b4.out⟩
      case measure => simp [intOf]; omega
    · obtain rfl : k = s.size := by omega
      have hl1 := hexB_length s.data.toList
      rw [hlen] at hl1
      have HL := Lib.hid hl1
      rw [List.take_of_length_le (by rw [hlen]; exact Nat.le_refl _)] at HB
      obtain ⟨h, hh⟩ : ∃ h, hexB s.data.toList = h := ⟨_, rfl⟩
      rw [hh] at HB HL
      obtain ⟨T, hT⟩ : ∃ T : ByteArray, (⟨h.toArray⟩ : ByteArray) = T := ⟨_, rfl⟩
      have hTz : T.size = 3 * s.size := by rw [← hT, ← HL.out]; rfl
      have HTd : Hid (T.data.toList = h) := by unfold Hid; rw [← hT]
      have q1 : ¬ 9223372036854775807 < T.size + (⟨#[35, 32]⟩ : ByteArray).size := by rw [hTz]; show ¬ 9223372036854775807 < 3 * s.size + 2; omega
      have z1 : (T ++ (⟨#[35, 32]⟩ : ByteArray)).size = 3 * s.size + 2 := by rw [ByteArray.size_append, hTz]; rfl
      have q2 : ¬ 9223372036854775807 < (T ++ (⟨#[35, 32]⟩ : ByteArray)).size + note.size := by rw [z1]; omega
      have z2 : (T ++ (⟨#[35, 32]⟩ : ByteArray) ++ note).size = 3 * s.size + 2 + note.size := by rw [ByteArray.size_append, z1]
      have q3 : ¬ 9223372036854775807 < (T ++ (⟨#[35, 32]⟩ : ByteArray) ++ note).size + (⟨#[10]⟩ : ByteArray).size := by rw [z2]; show ¬ 9223372036854775807 < 3 * s.size + 2 + note.size + 1; omega
      clear z1 z2 hTz hl1
      go_wp2_with fail
      refine (Builder_String _ _ _ wr HB.out hsz).mono ?_
      rintro e w1 ⟨rfl, -, b1, -⟩
      rw [hT]
      go_wp2_with fail
      go_returns
      refine ⟨⟨_, rfl, ?_⟩, HBw.out.trans b1⟩
      unfold Hid
      rw [ba_appS, ba_appS, ba_appS, HTd.out, ← hh]
      rfl
end Go.Proofs.YthfdjfgmgoafnaaDoor
namespace Go.Proofs.YthfdjfgmgoafnaaDoor
open Go.RowKit

/-- Where a loader stands: in a note; the first digit of two, or -1; what it has put out. -/
structure Ls where
  note : Bool
  high : Int
  out : List UInt8
def lstep (s : Ls) (c : UInt8) : Ls :=
  if c.toNat = 10 then ⟨false, s.high, s.out⟩
  else if s.note = true then s
  else if c.toNat = 35 then ⟨true, s.high, s.out⟩
  else if digV c < 0 then s
  else if s.high < 0 then ⟨s.note, digV c, s.out⟩
  else ⟨s.note, -1, s.out ++ [UInt8.ofNat (s.high.toNat * 16 + (digV c).toNat)]⟩
def l0 : Ls := ⟨false, -1, []⟩
def loadS (l : List UInt8) : Ls := l.foldl lstep l0
/-- The bytes of a text, read leniently. -/
def loadL (l : List UInt8) : List UInt8 := (loadS l).out

theorem loadS_snoc (l : List UInt8) (k : Nat) (h : k < l.length) : loadS (l.take (k + 1)) = lstep (loadS (l.take k)) l[k] := by
  unfold loadS
  rw [List.take_succ_eq_append_getElem h, List.foldl_append]
  rfl

/-- The digits' values outside of notes. -/
def dvals : Bool → List UInt8 → List Int
  | _, [] => []
  | n, c :: r => if c.toNat = 10 then dvals false r else if n = true then dvals n r else if c.toNat = 35 then dvals true r else if digV c < 0 then dvals n r else digV c :: dvals n r
/-- In a note behind it? -/
def noteS : Bool → List UInt8 → Bool
  | n, [] => n
  | n, c :: r => if c.toNat = 10 then noteS false r else if n = true then noteS n r else if c.toNat = 35 then noteS true r else noteS n r
theorem dvals_cons (n : Bool) (c : UInt8) (r : List UInt8) : dvals n (c :: r) = if c.toNat = 10 then dvals false r else if n = true then dvals n r else if c.toNat = 35 then dvals true r else if digV c < 0 then dvals n r else digV c :: dvals n r := rfl
theorem noteS_cons (n : Bool) (c : UInt8) (r : List UInt8) : noteS n (c :: r) = if c.toNat = 10 then noteS false r else if n = true then noteS n r else if c.toNat = 35 then noteS true r else noteS n r := rfl
def pairV : List Int → List UInt8
  | a :: b :: r => UInt8.ofNat (a.toNat * 16 + b.toNat) :: pairV r
  | _ => []
theorem pairs_eq (l : List UInt8) : pairs l = pairV (l.map digV) := by
  match l with
  | [] => rfl
  | [_] => rfl
  | a :: b :: r => simp only [pairs, List.map_cons, pairV]; rw [pairs_eq r]
theorem pairV_append (x y : List Int) (q : Nat) (h : x.length = 2 * q) : pairV (x ++ y) = pairV x ++ pairV y := by
  induction q generalizing x with
  | zero => obtain rfl := List.eq_nil_of_length_eq_zero h; rfl
  | succ q ih =>
    match x, h with
    | a :: b :: r, h =>
      show _ :: pairV (r ++ y) = _ :: pairV r ++ pairV y
      rw [ih r (by simp at h; omega)]
      rfl
theorem pairV_length (x : List Int) : (pairV x).length = x.length / 2 := by
  match x with
  | [] => rfl
  | [_] => simp [pairV]
  | _ :: _ :: r =>
    unfold pairV
    rw [List.length_cons, pairV_length r, List.length_cons, List.length_cons]
    omega
theorem digV_nl {c : UInt8} (h : 0 ≤ digV c) : c.toNat ≠ 10 ∧ c.toNat ≠ 35 := by
  unfold digV at h
  constructor
  all_goals
    intro e
    rw [e] at h
    revert h
    decide
theorem foldl_out (l : List UInt8) (n : Bool) (h : Int) (o : List UInt8) : (l.foldl lstep ⟨n, h, o⟩).out = o ++ pairV ((if h < 0 then [] else [h]) ++ dvals n l) := by
  induction l generalizing n h o with
  | nil => by_cases hh : h < 0 <;> simp [hh, dvals, pairV]
  | cons c r ih =>
    have e : lstep ⟨n, h, o⟩ c = if c.toNat = 10 then ⟨false, h, o⟩ else if n = true then ⟨n, h, o⟩ else if c.toNat = 35 then ⟨true, h, o⟩ else if digV c < 0 then ⟨n, h, o⟩ else if h < 0 then ⟨n, digV c, o⟩ else ⟨n, -1, o ++ [UInt8.ofNat (h.toNat * 16 + (digV c).toNat)]⟩ := rfl
    rw [List.foldl_cons, e]
    clear e
    unfold dvals
    by_cases h1 : c.toNat = 10
    · rw [if_pos h1, if_pos h1, ih]
    rw [if_neg h1, if_neg h1]
    by_cases h2 : n = true
    · rw [if_pos h2, if_pos h2, ih]
    rw [if_neg h2, if_neg h2]
    by_cases h3 : c.toNat = 35
    · rw [if_pos h3, if_pos h3, ih]
    rw [if_neg h3, if_neg h3]
    by_cases h4 : digV c < 0
    · rw [if_pos h4, if_pos h4, ih]
    rw [if_neg h4, if_neg h4]
    by_cases h5 : h < 0
    · rw [if_pos h5, if_pos h5, ih, if_neg h4]
      rfl
    · rw [if_neg h5, if_neg h5, ih, if_pos (by decide), List.append_assoc]
      rfl
theorem loadL_eq (l : List UInt8) : loadL l = pairV (dvals false l) := by
  unfold loadL loadS l0
  rw [foldl_out, if_pos (by decide)]
  rfl
theorem dvals_append (a b : List UInt8) (n : Bool) : dvals n (a ++ b) = dvals n a ++ dvals (noteS n a) b := by
  induction a generalizing n with
  | nil => rfl
  | cons c r ih =>
    rw [List.cons_append, dvals_cons, dvals_cons, noteS_cons]
    by_cases h1 : c.toNat = 10
    · simp only [if_pos h1]; exact ih _
    simp only [if_neg h1]
    by_cases h2 : n = true
    · simp only [if_pos h2]; exact ih _
    simp only [if_neg h2]
    by_cases h3 : c.toNat = 35
    · simp only [if_pos h3]; exact ih _
    simp only [if_neg h3]
    by_cases h4 : digV c < 0
    · simp only [if_pos h4]; exact ih _
    · simp only [if_neg h4, List.cons_append]; rw [ih]
theorem noteS_append (a b : List UInt8) (n : Bool) : noteS n (a ++ b) = noteS (noteS n a) b := by
  induction a generalizing n with
  | nil => rfl
  | cons c r ih =>
    rw [List.cons_append, noteS_cons, noteS_cons]
    by_cases h1 : c.toNat = 10
    · simp only [if_pos h1]; exact ih _
    simp only [if_neg h1]
    by_cases h2 : n = true
    · simp only [if_pos h2]; exact ih _
    simp only [if_neg h2]
    by_cases h3 : c.toNat = 35
    · simp only [if_pos h3]; exact ih _
    · simp only [if_neg h3]; exact ih _
theorem dvals_digits {l : List UInt8} (h : ∀ c ∈ l, 0 ≤ digV c) : dvals false l = l.map digV ∧ noteS false l = false := by
  induction l with
  | nil => exact ⟨rfl, rfl⟩
  | cons c r ih =>
    obtain ⟨i1, i2⟩ := ih (fun x hx => h x (List.mem_cons_of_mem _ hx))
    have hc := h c (List.mem_cons_self ..)
    obtain ⟨n1, n2⟩ := digV_nl hc
    have hc0 : ¬ digV c < 0 := by omega
    rw [dvals_cons, noteS_cons]
    simp only [if_neg n1, if_neg n2, if_neg hc0, Bool.false_eq_true, if_false, i1, i2, List.map_cons, and_self]
theorem dvals_length (l : List UInt8) (n : Bool) : (dvals n l).length ≤ l.length := by
  induction l generalizing n with
  | nil => exact Nat.le_refl _
  | cons c r ih =>
    have a := ih true
    have b := ih false
    have d := ih n
    rw [dvals_cons, List.length_cons]
    repeat' split
    all_goals (try rw [List.length_cons])
    all_goals omega
theorem load_digits {l : List UInt8} (h : ∀ c ∈ l, 0 ≤ digV c) : loadL l = pairs l := by
  rw [loadL_eq, (dvals_digits h).1, pairs_eq]
theorem load_hexT (l : List UInt8) : loadL (hexT l) = l := by rw [load_digits (hexT_digits l), pairs_hexT]
theorem load_length (l : List UInt8) : (loadL l).length ≤ l.length / 2 := by
  rw [loadL_eq, pairV_length]
  have := dvals_length l false
  omega
/-- What the loader holds along the way. -/
theorem loadS_inv (l : List UInt8) : -1 ≤ (loadS l).high ∧ (loadS l).high < 16 ∧ 2 * (loadS l).out.length ≤ l.length := by
  have h1 : ∀ (l : List UInt8) (s : Ls), -1 ≤ s.high → s.high < 16 → -1 ≤ (l.foldl lstep s).high ∧ (l.foldl lstep s).high < 16 := by
    intro l
    induction l with
    | nil => exact fun s a b => ⟨a, b⟩
    | cons c r ih =>
      intro s a b
      rw [List.foldl_cons]
      have h1 := digV_ge c
      have h2 := digV_lt c
      refine ih _ ?_ ?_
      all_goals
        unfold lstep
        repeat' split
        all_goals (try dsimp only)
        all_goals omega
  obtain ⟨a, b⟩ := h1 l l0 (by decide) (by decide)
  have := load_length l
  unfold loadL at this
  exact ⟨a, b, by omega⟩
/-- A note up to a line's end plays no part. -/
theorem dvals_note (l : List UInt8) (h : ∀ c ∈ l, c.toNat ≠ 10) : dvals true l = [] ∧ noteS true l = true := by
  induction l with
  | nil => exact ⟨rfl, rfl⟩
  | cons c r ih =>
    have hc := h c (List.mem_cons_self ..)
    rw [dvals_cons, noteS_cons, if_neg hc, if_neg hc, if_pos rfl, if_pos rfl]
    exact ih (fun x hx => h x (List.mem_cons_of_mem _ hx))
theorem noteS_free (l : List UInt8) (h : ∀ c ∈ l, c.toNat ≠ 35) : noteS false l = false := by
  induction l with
  | nil => rfl
  | cons c r ih =>
    have hc := h c (List.mem_cons_self ..)
    have hr := ih (fun x hx => h x (List.mem_cons_of_mem _ hx))
    rw [noteS_cons]
    split
    · exact hr
    · simp only [Bool.false_eq_true, if_false]; exact hr
theorem load_note (a n b : List UInt8) (ha : ∀ c ∈ a, c.toNat ≠ 35) (hn : ∀ c ∈ n, c.toNat ≠ 10) : loadL (a ++ [35] ++ n ++ [10] ++ b) = loadL (a ++ b) := by
  rw [loadL_eq, loadL_eq]
  have h1 : noteS false (a ++ [35]) = true := by rw [noteS_append, noteS_free a ha]; rfl
  have h2 : noteS false (a ++ [35] ++ n) = true := by rw [noteS_append, h1, (dvals_note n hn).2]
  rw [dvals_append, dvals_append (a ++ [35] ++ n), dvals_append (a ++ [35]), dvals_append a [35], noteS_append (a ++ [35] ++ n), h1, h2, (dvals_note n hn).1, noteS_free a ha, dvals_append a b, noteS_free a ha]
  have e1 : dvals false [35] = [] := by decide
  have e2 : dvals true [10] = [] := by decide
  have e3 : noteS true [10] = false := by decide
  rw [e1, e2, e3]
  simp
theorem load_between (a m b : List UInt8) (ha : ∀ c ∈ a, c.toNat ≠ 35) (h1 : dvals false m = []) (h2 : noteS false m = false) : loadL (a ++ m ++ b) = loadL (a ++ b) := by
  rw [loadL_eq, loadL_eq, dvals_append, dvals_append a m, noteS_append, noteS_free a ha, h1, h2, dvals_append a b, noteS_free a ha]
  simp
theorem lstep_nl {n : Bool} {h : Int} {o : List UInt8} {x : UInt8} (hx : x.toNat = 10) : lstep ⟨n, h, o⟩ x = ⟨false, h, o⟩ := by unfold lstep; rw [if_pos hx]
theorem lstep_note {h : Int} {o : List UInt8} {x : UInt8} (hx : x.toNat ≠ 10) : lstep ⟨true, h, o⟩ x = ⟨true, h, o⟩ := by unfold lstep; rw [if_neg hx, if_pos rfl]
theorem lstep_hash {h : Int} {o : List UInt8} {x : UInt8} (hx : x.toNat = 35) : lstep ⟨false, h, o⟩ x = ⟨true, h, o⟩ := by unfold lstep; rw [if_neg (by omega), if_neg (show ¬ (false = true) by decide), if_pos hx]
theorem lstep_other {h : Int} {o : List UInt8} {x : UInt8} (h1 : x.toNat ≠ 10) (h2 : x.toNat ≠ 35) (hx : digV x < 0) : lstep ⟨false, h, o⟩ x = ⟨false, h, o⟩ := by unfold lstep; rw [if_neg h1, if_neg (show ¬ (false = true) by decide), if_neg h2, if_pos hx]
theorem lstep_high {h : Int} {o : List UInt8} {x : UInt8} (h1 : x.toNat ≠ 10) (h2 : x.toNat ≠ 35) (hx : ¬ digV x < 0) (hh : h < 0) : lstep ⟨false, h, o⟩ x = ⟨false, digV x, o⟩ := by unfold lstep; rw [if_neg h1, if_neg (show ¬ (false = true) by decide), if_neg h2, if_neg hx, if_pos hh]
theorem lstep_low {h : Int} {o : List UInt8} {x : UInt8} (h1 : x.toNat ≠ 10) (h2 : x.toNat ≠ 35) (hx : ¬ digV x < 0) (hh : ¬ h < 0) : lstep ⟨false, h, o⟩ x = ⟨false, -1, o ++ [UInt8.ofNat (h.toNat * 16 + (digV x).toNat)]⟩ := by unfold lstep; rw [if_neg h1, if_neg (show ¬ (false = true) by decide), if_neg h2, if_neg hx, if_neg hh]

end Go.Proofs.YthfdjfgmgoafnaaDoor
