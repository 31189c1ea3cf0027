/- Layer 2, what the laws' own texts use: great letters, a byte in a text; walked. -/
import Derived.Test.YtiodfppgcjmlkaaDoorHxC
import Derived.Test.YtiodfppgcjmlkaaDoorHxL
import Derived.Lib.ConvBytes
import Derived.Lib.SmallJoins
namespace Go.Proofs.YtiodfppgcjmlkaaDoor
open Go.RowKit

/-- Does a byte stand in a text? -/
def hasB (l : List UInt8) (c : UInt8) : Bool := l.any fun x => decide (x.toNat = c.toNat)
theorem hasB_false {l : List UInt8} {c : UInt8} (h : hasB l c = false) : ∀ x ∈ l, x.toNat ≠ c.toNat := by
  intro x hx he
  unfold hasB at h
  rw [List.any_eq_false] at h
  exact h x hx (decide_eq_true he)
theorem law_has (s : ByteArray) (c : UInt8) (w : World) (hs : s.size ≤ 1000000000000) :
    Calls Tryd.prog 20 #[.string s, .int .u8 c.toNat] w fun e w' => e = .returned (.bool (hasB s.data.toList c)) ∧ w = w' := by
  go_enter Tryd.func20, Tryd.ntmps20
  go_wp2_with fail
  go_loop [5] (fun i => ∃ k : Nat, k ≤ s.size ∧ i = .int .i64 k ∧ Hid (∀ j (hj : j < s.data.toList.length), j < k → s.data.toList[j].toNat ≠ c.toNat)) (fun i => s.size - (intOf i).toNat)
  case atStart => exact ⟨0, Nat.zero_le _, rfl, fun j _ h => absurd h (by omega)⟩
  case round =>
    obtain ⟨k, hk, rfl, HD⟩ := hrel
    by_cases hlt : k < s.size
    · obtain ⟨x, hx⟩ : ∃ x, s[k] = x := ⟨_, rfl⟩
      have hxL : s.data.toList[k]'hlt = x := hx
      have HX := Lib.hid hxL
      clear hxL
      have hltI : (k : Int) < s.size := by omega
      have hk0 : (0 : Int) ≤ k := by omega
      by_cases heq : x.toNat = c.toNat
      · have hq : ((x.toNat : Int) == (c.toNat : Int)) = true := by rw [beq_iff_eq]; omega
        have HR : Hid (hasB s.data.toList c = true) := List.any_eq_true.2 ⟨x, by rw [← HX.out]; exact List.getElem_mem _, decide_eq_true heq⟩
        clear heq
        go_wp2_with fail
        go_returns
        exact ⟨ret_bool (by rw [HR.out]), rfl⟩
      · have hq : ((x.toNat : Int) == (c.toNat : Int)) = false := by rw [beq_eq_false_iff_ne]; omega
        have HE := Lib.hid heq
        clear heq
        go_wp2_with fail
        go_round
        case rel =>
          refine ⟨k + 1, hlt, rfl, fun j hj hjk => ?_⟩
          by_cases h : j = k
          · subst h; rw [HX.out]; exact HE.out
          · exact HD.out j hj (by omega)
        case measure => simp [intOf]; omega
    · obtain rfl : k = s.size := by omega
      have HR : Hid (hasB s.data.toList c = false) := List.any_eq_false.2 (fun x hx => by
        obtain ⟨i, hi, rfl⟩ := List.mem_iff_getElem.1 hx
        have := HD.out i hi hi
        simpa using this)
      go_wp2_with fail
      go_returns
      exact ⟨ret_bool (by rw [HR.out]), rfl⟩

/-- Small letters as great ones. -/
def upB (c : UInt8) : UInt8 := if 97 ≤ c.toNat ∧ c.toNat ≤ 122 then c - 32 else c
theorem upB_toNat (c : UInt8) (h1 : 97 ≤ c.toNat) (h2 : c.toNat ≤ 122) : (upB c).toNat = c.toNat - 32 := by
  unfold upB
  rw [if_pos ⟨h1, h2⟩, UInt8.toNat_sub]
  have : (32 : UInt8).toNat = 32 := rfl
  omega
theorem digV_up (c : UInt8) (h : 0 ≤ digV c) : digV (upB c) = digV c := by
  by_cases hc : 97 ≤ c.toNat ∧ c.toNat ≤ 122
  · have hu := upB_toNat c hc.1 hc.2
    unfold digV at h ⊢
    rw [hu]
    repeat' split at h
    all_goals (repeat' split)
    all_goals omega
  · unfold upB; rw [if_neg hc]
theorem pairs_up (l : List UInt8) (h : ∀ c ∈ l, 0 ≤ digV c) : pairs (l.map upB) = pairs l := by
  rw [pairs_eq, pairs_eq, List.map_map]
  congr 1
  exact List.map_congr_left fun c hc => digV_up c (h c hc)
theorem parse_up (l : List UInt8) : parseI ((hexT l).map upB) = (l, 0, true) := by
  rw [parseI_digits, pairs_up _ (hexT_digits l), pairs_hexT]
  · intro c hc
    obtain ⟨x, hx, rfl⟩ := List.mem_map.1 hc
    rw [digV_up x (hexT_digits l x hx)]
    exact hexT_digits l x hx
  · rw [List.length_map, hexT_length]; omega

/-- A block of bytes that a conversion made: its cells from 0 on. -/
def Brow (w : World) (g : Nat) (n : Nat) (f : Nat → UInt8) : Prop := ∃ cs E m, w.heap[g]? = some (.cells cs E (n + m, n + m + 1)) ∧ n + m = cs.size ∧ ∀ i, i < n → cs[i]? = some (bv (f i))
section
variable {w : World} {g n : Nat} {f : Nat → UInt8}
theorem Brow.lt (h : Brow w g n f) : g < w.heap.size := by obtain ⟨cs, E, m, h1, _⟩ := h; exact (Array.getElem?_eq_some_iff.1 h1).1
theorem Brow.cell (h : Brow w g n f) {i : Nat} (hi : i < n) : w.cell? ⟨g, i, none⟩ = some (bv (f i)) := by obtain ⟨cs, E, m, h1, h2, h3⟩ := h; simp [World.cell?, h1, h3 i hi]
theorem Brow.frozen (h : Brow w g n f) {i : Nat} (hi : i < n) : w.frozen? ⟨g, i, none⟩ = false := by
  obtain ⟨cs, E, m, h1, h2, h3⟩ := h
  simp [World.frozen?, h1]
  omega
theorem Brow.drew (h : Brow w g n f) : Brow w.drew g n f := h
theorem Brow.set (h : Brow w g n f) {i : Nat} (hi : i < n) (x : UInt8) : Brow (w.setCell ⟨g, i, none⟩ (bv x)) g n (fun j => if j = i then x else f j) := by
  obtain ⟨cs, E, m, h1, h2, h3⟩ := h
  refine ⟨cs.setIfInBounds i (bv x), E, m, by simp [World.setCell, Array.getElem?_modify, h1], by simpa using h2, fun j hj => ?_⟩
  rw [Array.getElem?_setIfInBounds]
  by_cases hji : j = i
  · subst hji; rw [if_pos rfl, if_pos (by omega)]; simp
  · rw [if_neg (fun e => hji e.symm), h3 j hj]; simp [hji]
theorem brow_new (w : World) (E : TypeId) (s : ByteArray) : Brow (Lib.bytesWorld w E s) w.heap.size s.size (fun i => s.data.toList.getD i 0) := by
  have hn := Lib.bytesWorld_at_new w E s
  have hsz : (Lib.bytesCells w E s).size = s.size + (grownCap w s.size 0 E - s.size) := by
    unfold Lib.bytesCells
    rw [Array.size_append, Array.size_map, Array.size_replicate]
    rfl
  refine ⟨_, E, grownCap w s.size 0 E - s.size, by rw [← hsz]; exact hn, hsz.symm, fun i hi => ?_⟩
  have hc := Lib.bytesWorld_cell w E s i hi
  simp [World.cell?, hn] at hc
  rw [hc]
  simp [bv]
end
theorem run_string_brow {P : Program} {w : World} {g n c : Nat} {f : Nat → UInt8} (src dst E : TypeId) (hs : P.underlying src = some (.slice E)) (he : P.underlying E = some (.int .u8)) (hd : P.underlying dst = some .string)
    (h : Brow w g n f) : (convert src dst (.slice (some ⟨g, 0, none⟩) n c)).run P w = .ok (.string ⟨((List.range n).map f).toArray⟩) w := by
  have hr := run_convert_bytes_back w src dst E ⟨g, 0, none⟩ c ((List.range n).map f) hs he hd (fun j hj => by
    have e : (⟨g, 0, none⟩ : Addr).add j = ⟨g, j, none⟩ := by unfold Addr.add; split <;> simp_all
    rw [e, h.cell (by simpa using hj)]
    simp [bv])
  rwa [List.length_map, List.length_range] at hr

set_option maxHeartbeats 1000000 in
theorem law_great (s : ByteArray) (w : World) (hs : s.size ≤ 1000000000000) :
    Calls Tryd.prog 13 #[.string s] w fun e w' => (∃ t, e = .returned (.string t) ∧ Hid (t.data.toList = s.data.toList.map upB)) ∧ Below w.heap.size w w' := by
  have hcb := fun (W : World) (S : ByteArray) => Lib.run_convert_string_bytes (P := Tryd.prog) W 9 31 5 S Tryd.underlying9 Tryd.underlying31 Tryd.underlying5
  go_enter Tryd.func13, Tryd.ntmps13
  go_wp2_with fail
  clear hcb
  have hB0 := brow_new w 5 s
  have bel0 := Go.Joins.below_bytesWorld w.heap.size w 5 s (Nat.le_refl _)
  generalize grownCap w s.size 0 5 = C
  generalize Lib.bytesWorld w 5 s = W0 at hB0 bel0 ⊢
  go_loopw [4] (fun i wr => ∃ k : Nat, k ≤ s.size ∧ i = .int .i64 k ∧ Brow wr w.heap.size s.size (fun i => if i < k then upB (s.data.toList.getD i 0) else s.data.toList.getD i 0) ∧ Below w.heap.size w wr) (fun i _ => s.size - (intOf i).toNat)
  case atStart => exact ⟨0, Nat.zero_le _, rfl, by simpa using hB0, bel0⟩
  case round =>
    clear hB0 bel0
    obtain ⟨k, hk, rfl, hB, hbel⟩ := hrel
    by_cases hlt : k < s.size
    · obtain ⟨x, hx⟩ : ∃ x, s.data.toList.getD k 0 = x := ⟨_, rfl⟩
      have hc := hB.cell hlt
      rw [if_neg (by omega), hx] at hc
      simp only [bv] at hc
      have hf := hB.frozen hlt
      have hltI : (k : Int) < s.size := by omega
      have hk0 : (0 : Int) ≤ k := by omega
      have HX := Lib.hid hx
      have hx8 := x.toNat_lt
      clear hx
      by_cases hup : 97 ≤ x.toNat ∧ x.toNat ≤ 122
      · obtain ⟨u1, u2⟩ := hup
        have hv : bv (upB x) = .int .u8 ((x.toNat : Int) - 32) := by unfold bv; rw [upB_toNat x u1 u2]; congr 1; omega
        have HV := Lib.hid hv
        clear hv
        go_wp2_with fail
        have hB2 := hB.set hlt (upB x)
        rw [HV.out] at hB2
        have bel2 := hbel.setCell (p := ⟨w.heap.size, k, none⟩) (Nat.le_refl _) (.int .u8 ((x.toNat : Int) - 32))
        go_roundw
        case rel =>
          refine ⟨k + 1, hlt, rfl, ?_, bel2⟩
          obtain ⟨cs, E, m, h1, h2, h3⟩ := hB2
          refine ⟨cs, E, m, h1, h2, fun i hi => ?_⟩
          rw [h3 i hi]
          dsimp only
          by_cases hik : i = k
          · subst hik; rw [if_pos rfl, if_pos (by omega), HX.out]
          · rw [if_neg hik]
            by_cases h : i < k
            · rw [if_pos h, if_pos (by omega)]
            · rw [if_neg h, if_neg (by omega)]
        case measure => simp [intOf]; omega
      · have hsame : upB x = x := by unfold upB; rw [if_neg hup]
        have HS := Lib.hid hsame
        clear hsame
        have hB2 : Brow wr w.heap.size s.size (fun i => if i < k + 1 then upB (s.data.toList.getD i 0) else s.data.toList.getD i 0) := by
          obtain ⟨cs, E, m, h1, h2, h3⟩ := hB
          refine ⟨cs, E, m, h1, h2, fun i hi => ?_⟩
          rw [h3 i hi]
          dsimp only
          by_cases hik : i = k
          · subst hik; rw [if_neg (by omega), if_pos (by omega), HX.out, HS.out]
          · by_cases h : i < k
            · rw [if_pos h, if_pos (by omega)]
            · rw [if_neg h, if_neg (by omega)]
        have hcase : x.toNat < 97 ∨ (97 ≤ x.toNat ∧ 122 < x.toNat) := by omega
        clear hup
        rcases hcase with u1 | ⟨u1, u2⟩
        all_goals
          go_wp2_with fail
          go_roundw
          case rel => exact ⟨k + 1, hlt, rfl, hB2, hbel⟩
          case measure => simp [intOf]; omega
    · obtain rfl : k = s.size := by omega
      have hconv := run_string_brow (c := C) 31 9 5 Tryd.underlying31 Tryd.underlying5 Tryd.underlying9 hB
      obtain ⟨T, hT⟩ : ∃ T : ByteArray, (⟨((List.range s.size).map (fun i => if i < s.size then upB (s.data.toList.getD i 0) else s.data.toList.getD i 0)).toArray⟩ : ByteArray) = T := ⟨_, rfl⟩
      have hTl : Hid (T.data.toList = s.data.toList.map upB) := by
        unfold Hid
        rw [← hT]
        apply List.ext_getElem
        · simp
        · intro i h1 h2
          have hi : i < s.size := by simpa using h1
          simp [hi]
      rw [hT] at hconv
      clear hT
      go_wp2_with fail
      go_returns
      exact ⟨⟨T, rfl, hTl⟩, hbel⟩
end Go.Proofs.YtiodfppgcjmlkaaDoor
