/- Layer 2, plain: hexadecimal digits, texts, and their reading. No program in sight. -/
/- Closed facts on the rows of this translation's table of types. -/
/- Layer 2: the laid table of digits; what a digit is worth, walked. -/
/- Layer 2: texts of bytes, and their reading, walked. -/
import Derived.Test.YthfdjfgmgoafnaaDoorPb
import Derived.Test.YthfdjfgmgoafnaaDoorChecked
import Derived.Test.YthfdjfgmgoafnaaDoorLib
namespace Go.Proofs.YthfdjfgmgoafnaaDoor
open Go.RowKit

/-- What a byte is worth as a digit; -1: it is none. -/
def digV (c : UInt8) : Int :=
  if 48 ≤ c.toNat ∧ c.toNat ≤ 57 then (c.toNat : Int) - 48 else if 97 ≤ c.toNat ∧ c.toNat ≤ 102 then (c.toNat : Int) - 87 else if 65 ≤ c.toNat ∧ c.toNat ≤ 70 then (c.toNat : Int) - 55 else -1
/-- The small digit that is worth n. -/
def smallN (n : Nat) : Nat := if n < 10 then 48 + n else 87 + n
def smallD (n : Nat) : UInt8 := UInt8.ofNat (smallN n)
def hexT (l : List UInt8) : List UInt8 := l.flatMap fun b => [smallD (b.toNat / 16), smallD (b.toNat % 16)]

theorem digV_lt (c : UInt8) : digV c < 16 := by unfold digV; repeat' split <;> omega
theorem digV_ge (c : UInt8) : -1 ≤ digV c := by unfold digV; repeat' split <;> omega
theorem digV_neg {c : UInt8} (h : digV c < 0) : digV c = -1 := by have := digV_ge c; omega
theorem smallN_lt (n : Nat) (h : n < 16) : smallN n < 256 := by unfold smallN; split <;> omega
theorem smallD_toNat (n : Nat) (h : n < 16) : (smallD n).toNat = smallN n := by
  unfold smallD; rw [UInt8.toNat_ofNat']; have := smallN_lt n h; omega
theorem smallD_bv (n : Nat) (h : n < 16) : bv (smallD n) = .int .u8 (smallN n : Nat) := by unfold bv; rw [smallD_toNat n h]
theorem digV_small (n : Nat) (h : n < 16) : digV (smallD n) = n := by
  have e := smallD_toNat n h
  unfold digV
  rw [e]
  unfold smallN
  repeat' split
  all_goals omega
/-- The letter that is looked for in the table. -/
def lowN (c : UInt8) : Nat := if 65 ≤ c.toNat ∧ c.toNat ≤ 70 then c.toNat + 32 else c.toNat
theorem dig_hit (c : UInt8) (k : Nat) (hk : k < 16) (h : smallN k = lowN c) : digV c = k := by
  unfold digV
  unfold lowN smallN at h
  repeat' split at h
  all_goals (repeat' split)
  all_goals omega
theorem dig_miss (c : UInt8) (h : ∀ k, k < 16 → smallN k ≠ lowN c) : digV c = -1 := by
  have hlt := digV_lt c
  have hge := digV_ge c
  by_cases h0 : 0 ≤ digV c
  · exfalso
    have hk := h (digV c).toNat (by omega)
    apply hk
    unfold digV at h0 ⊢
    unfold lowN smallN
    repeat' split at h0
    all_goals (repeat' split)
    all_goals omega
  · omega

theorem hexT_length (l : List UInt8) : (hexT l).length = 2 * l.length := by
  induction l with
  | nil => rfl
  | cons b r ih => unfold hexT at ih ⊢; rw [List.flatMap_cons, List.length_append, ih]; simp; omega
theorem hexT_snoc (l : List UInt8) (k : Nat) (h : k < l.length) : hexT (l.take (k + 1)) = hexT (l.take k) ++ [smallD (l[k].toNat / 16), smallD (l[k].toNat % 16)] := by
  unfold hexT
  rw [List.take_succ_eq_append_getElem h, List.flatMap_append]
  simp

/-- What the digits of a text give, two by two. -/
def pairs : List UInt8 → List UInt8
  | a :: b :: r => UInt8.ofNat ((digV a).toNat * 16 + (digV b).toNat) :: pairs r
  | _ => []
/-- A text's bytes; or the place of what is wrong. -/
def parseI (l : List UInt8) : List UInt8 × Nat × Bool :=
  match l.findIdx? (fun c => decide (digV c < 0)) with
  | some i => ([], i, false)
  | none => if l.length % 2 = 1 then ([], l.length, false) else (pairs l, 0, true)
def parseE (l : List UInt8) : Int := match (parseI l).2.2 with
  | true => 0
  | false => 3
theorem pairs_hexT (l : List UInt8) : pairs (hexT l) = l := by
  induction l with
  | nil => rfl
  | cons b r ih =>
    unfold hexT at ih ⊢
    rw [List.flatMap_cons]
    show UInt8.ofNat ((digV (smallD (b.toNat / 16))).toNat * 16 + (digV (smallD (b.toNat % 16))).toNat) :: pairs (List.flatMap (fun b => [smallD (b.toNat / 16), smallD (b.toNat % 16)]) r) = _
    have hb := b.toNat_lt
    rw [digV_small _ (by omega), digV_small _ (by omega), ih]
    congr 1
    rw [Int.toNat_natCast, Int.toNat_natCast, show b.toNat / 16 * 16 + b.toNat % 16 = b.toNat by omega]
    exact UInt8.ofNat_toNat
theorem hexT_digits (l : List UInt8) : ∀ c ∈ hexT l, 0 ≤ digV c := by
  intro c hc
  unfold hexT at hc
  obtain ⟨b, _, hb⟩ := List.mem_flatMap.1 hc
  have hb8 := b.toNat_lt
  simp only [List.mem_cons, List.not_mem_nil, or_false] at hb
  rcases hb with rfl | rfl
  · rw [digV_small _ (by omega)]; omega
  · rw [digV_small _ (by omega)]; omega
theorem parseI_digits {l : List UInt8} (h : ∀ c ∈ l, 0 ≤ digV c) (h2 : l.length % 2 = 0) : parseI l = (pairs l, 0, true) := by
  unfold parseI
  rw [List.findIdx?_eq_none_iff.2 (fun c hc => by simpa using h c hc)]
  dsimp only
  rw [if_neg (by omega)]
theorem parseI_hexT (l : List UInt8) : parseI (hexT l) = (l, 0, true) := by
  rw [parseI_digits (hexT_digits l) (by rw [hexT_length]; omega), pairs_hexT]
theorem hex2 (x : UInt8) : [smallD (x.toNat / 16), smallD (x.toNat % 16)].map bv = [.int .u8 (smallN (x.toNat / 16) : Nat), .int .u8 (smallN (x.toNat % 16) : Nat)] := by
  have hx := x.toNat_lt
  simp only [List.map_cons, List.map_nil]
  rw [smallD_bv _ (by omega), smallD_bv _ (by omega)]
theorem pairs_append (x y : List UInt8) (q : Nat) (h : x.length = 2 * q) : pairs (x ++ y) = pairs x ++ pairs y := by
  induction q generalizing x with
  | zero => obtain rfl := List.eq_nil_of_length_eq_zero h; rfl
  | succ q ih =>
    match x, h with
    | a :: b :: r, h =>
      show _ :: pairs (r ++ y) = _ :: pairs r ++ pairs y
      rw [ih r (by simp at h; omega)]
      rfl
theorem pairs_length (x : List UInt8) : (pairs x).length = x.length / 2 := by
  match x with
  | [] => rfl
  | [_] => simp [pairs]
  | _ :: _ :: r =>
    unfold pairs
    rw [List.length_cons, pairs_length r, List.length_cons, List.length_cons]
    omega
theorem pairs_snoc (l : List UInt8) (m : Nat) (h : 2 * m + 1 < l.length) : pairs (l.take (2 * (m + 1))) = pairs (l.take (2 * m)) ++ [UInt8.ofNat ((digV l[2 * m]).toNat * 16 + (digV l[2 * m + 1]).toNat)] := by
  have e : l.take (2 * (m + 1)) = l.take (2 * m) ++ [l[2 * m], l[2 * m + 1]] := by
    rw [show 2 * (m + 1) = 2 * m + 1 + 1 by omega, List.take_succ_eq_append_getElem h, List.take_succ_eq_append_getElem (by omega), List.append_assoc]
    rfl
  rw [e, pairs_append _ _ m (by rw [List.length_take]; omega)]
  rfl
theorem parse_bad {l : List UInt8} {k : Nat} (hk : k < l.length) (hno : ∀ i (h : i < l.length), i < k → 0 ≤ digV l[i]) (hb : digV l[k] < 0) : parseI l = ([], k, false) := by
  unfold parseI
  have : l.findIdx? (fun c => decide (digV c < 0)) = some k := by
    rw [List.findIdx?_eq_some_iff_getElem]
    refine ⟨hk, by simpa using hb, fun j hj => ?_⟩
    have := hno j (by omega) hj
    simp; omega
  rw [this]
theorem parse_all {l : List UInt8} (hno : ∀ i (h : i < l.length), 0 ≤ digV l[i]) : parseI l = if l.length % 2 = 1 then ([], l.length, false) else (pairs l, 0, true) := by
  unfold parseI
  rw [List.findIdx?_eq_none_iff.2 (fun c hc => by
    obtain ⟨i, hi, rfl⟩ := List.mem_iff_getElem.1 hc
    have := hno i hi
    simp; omega)]
end Go.Proofs.YthfdjfgmgoafnaaDoor
namespace Go.Proofs.YthfdjfgmgoafnaaDoor
theorem info_u8 : (Tryd.prog.info? 5).map (fun i => (i.zero, i.size, i.bytes)) = some (some (.int .u8 0), 1, 1) := by kernel_rfl
theorem info_u32 : (Tryd.prog.info? 47).map (fun i => (i.zero, i.size, i.bytes)) = some (some (.int .u32 0), 1, 4) := by kernel_rfl
theorem info_int : (Tryd.prog.info? 3).map (fun i => (i.zero, i.size, i.bytes)) = some (some (.int .i64 0), 1, 8) := by kernel_rfl
end Go.Proofs.YthfdjfgmgoafnaaDoor
namespace Go.Proofs.YthfdjfgmgoafnaaDoor
open Go.RowKit

/-- The table of the small digits, as it was laid. -/
def Small (w : World) : Prop := 0 < w.heap.size ∧ ∀ i, i < 16 → w.cell? ⟨0, i, none⟩ = some (.int .u8 (smallN i : Nat))
theorem Small.below {B : Nat} {w w' : World} (h : Small w) (hb : Below B w w') (hB : 0 < B) : Small w' :=
  ⟨by have := hb.size; have := h.1; omega, fun i hi => (hb.cell (p := ⟨0, i, none⟩) hB).trans (h.2 i hi)⟩

end Go.Proofs.YthfdjfgmgoafnaaDoor
namespace Go.Proofs.YthfdjfgmgoafnaaDoor
open Go.RowKit

theorem and15 (x : UInt8) : bits .and .u8 (x.toNat : Int) 15 = (x.toNat : Int) % 16 := by
  have h := u8_and_nat x.toNat 15 x.toNat_lt (by decide)
  have h2 : x.toNat &&& 15 = x.toNat % 16 := Nat.and_two_pow_sub_one_eq_mod x.toNat 4
  rw [h2] at h
  exact h.trans (by omega)

set_option maxHeartbeats 1000000 in
theorem hex_Text (s : ByteArray) (w : World) (hs : s.size ≤ 1000000000000) (hT : Small w) :
    Calls Tryd.prog 30 #[.string s] w fun e w' => (∃ t, e = .returned (.string t) ∧ Hid (t.data.toList = hexT s.data.toList)) ∧ Below w.heap.size w w' := by
  go_enter Tryd.func30, Tryd.ntmps30
  go_wp2_with (at_make; refine wpList_make_row _ rfl _ _ 38 rfl w.heap.size 5 (.int .u8 0) 1 1 Tryd.underlying38 info_u8 _ _ _ (2 * s.size) rfl rfl (by omega) (by omega) (by omega) (Nat.le_refl _) ?_; intro v0 w0 hown0 hb0 hg0 hv0)
  go_loopw [3, 4] (fun v i wr => ∃ k : Nat, k ≤ s.size ∧ i = .int .i64 k ∧ wr.ownsRow w.heap.size 5 1 v (2 * k) ((hexT (s.data.toList.take k)).map bv) ∧ Below w.heap.size w wr) (fun _ i _ => s.size - (intOf i).toNat)
  case atStart => exact ⟨0, Nat.zero_le _, rfl, by simpa [hexT] using hown0, hb0⟩
  case round =>
    obtain ⟨k, hk, rfl, hown, hbel⟩ := hrel
    by_cases hlt : k < s.size
    · have HS := Lib.hid (hexT_snoc s.data.toList k hlt)
      obtain ⟨x, hx⟩ : ∃ x, s[k] = x := ⟨_, rfl⟩
      have hltI : (k : Int) < s.size := by omega
      have hk0 : (0 : Int) ≤ k := by omega
      have hsz := hbel.size
      have hx8 := x.toNat_lt
      have c1 := (hT.below hbel hT.1).2 (x.toNat / 16) (by omega)
      have c2 := (hT.below hbel hT.1).2 (x.toNat % 16) (by omega)
      have f1 : (0 : Int) ≤ (x.toNat : Int) / 16 := by omega
      have f2 : (x.toNat : Int) / 16 < 16 := by omega
      have f3 : ((x.toNat : Int) / 16).toNat = x.toNat / 16 := by omega
      have h15 := and15 x
      have g1 : (0 : Int) ≤ (x.toNat : Int) % 16 := by omega
      have g2 : (x.toNat : Int) % 16 < 16 := by omega
      have g3 : ((x.toNat : Int) % 16).toNat = x.toNat % 16 := by omega
      have e1 : s.data.toList[k] = x := hx
      rw [e1] at HS
      clear e1
      have hownD : wr.drew.ownsRow w.heap.size 5 1 u3 (2 * k) ((hexT (s.data.toList.take k)).map bv) := hown
      go_wp2_with fail
      go_region_law ((first
        | (refine step_append_new rfl rfl _ _ 38 rfl w.heap.size (.int .u8 0) 1 1 Tryd.underlying38 info_u8 rfl (by decide) _ (2 * k) _ rfl hownD 2 rfl rfl (by simp [Value.oneCell']) (by omega) (by omega) (by exact hsz) (by decide) ?_; intro g1 c1 w3 hown1 hb1 hk1)))
      all_goals
        go_wp2_with fail
        go_roundw
        case rel =>
          refine ⟨k + 1, hlt, rfl, ?_, (hbel.drew).trans hb1⟩
          rw [HS.out, List.map_append, hex2]
          exact hown1
        case measure => simp [intOf]; omega
    · obtain rfl : k = s.size := by omega
      obtain ⟨t, hconv, hS⟩ := string_row _ 38 9 Tryd.underlying38 Tryd.underlying5 Tryd.underlying9 hown
      rw [show s.data.toList.take s.size = s.data.toList from List.take_of_length_le (Nat.le_refl _)] at hS
      go_wp2_with fail
      go_returns
      exact ⟨⟨t, rfl, hS⟩, hbel⟩
end Go.Proofs.YthfdjfgmgoafnaaDoor
