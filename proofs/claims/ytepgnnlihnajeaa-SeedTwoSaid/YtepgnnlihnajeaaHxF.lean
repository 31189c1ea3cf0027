/- Layer 2, the document's dumps, walked. -/
import Derived.Test.YtepgnnlihnajeaaHxE
import Derived.Test.YtepgnnlihnajeaaHxR
import Derived.Lib.ConvBytes
import Derived.Lib.SmallJoins
namespace Go.Proofs.Ytepgnnlihnajeaa
open Go.RowKit
attribute [local go_sem ↓] Go.wp_at_zero Go.wp_at_succ

theorem ownAt2 {w : World} {B E : Nat} {v : Value} {n n' : Nat} {xs xs' : List Value} (h : w.ownsRow B E 1 v n xs) (hn : n = n') (hx : xs = xs') : w.ownsRow B E 1 v n' xs' := by subst hn hx; exact h
/-- The new block of '[]byte(s)', as a slice that reads as a list. -/
theorem sl_bytes (w : World) (e : TypeId) (s : ByteArray) : Sl (Lib.bytesWorld w e s) (Lib.bytesWorld w e s).heap.size (some ⟨w.heap.size, 0, none⟩) s.size (s.data.toList.map bv) :=
  ⟨by rw [List.length_map]; rfl, fun _ => ⟨w.heap.size, 0, rfl, by rw [Lib.bytesWorld_size]; omega, fun i u hu => by
    have hi : i < s.size := by have := (List.getElem?_eq_some_iff.1 hu).1; rw [List.length_map] at this; exact this
    rw [Nat.zero_add, Lib.bytesWorld_cell w e s i hi, ← hu, List.getElem?_map, List.getD_eq_getElem?_getD, List.getElem?_eq_getElem (show i < s.data.toList.length from hi)]
    rfl⟩⟩
theorem sl_bytes2 (w : World) (e : TypeId) (s : ByteArray) (m : Nat) (hm : m = s.size) : Sl (Lib.bytesWorld w e s) (Lib.bytesWorld w e s).heap.size (some ⟨w.heap.size, 0, none⟩) m (s.data.toList.map bv) := by subst hm; exact sl_bytes w e s
theorem tail_cat (t : ByteArray) (n : Nat) (h : t.data.toList = Lib.decDigits n) : ((⟨#[32, 32, 35, 32]⟩ ++ t) ++ ⟨#[10]⟩ : ByteArray).data.toList = dTail n := by
  rw [ba_append, ba_append, h]; rfl
theorem tail_sz (t : ByteArray) : 4 + t.size + 1 = ((⟨#[32, 32, 35, 32]⟩ ++ t) ++ ⟨#[10]⟩ : ByteArray).size := by
  rw [ByteArray.size_append, ByteArray.size_append]; rfl
theorem tail_len (t : ByteArray) (n : Nat) (h : t.data.toList = Lib.decDigits n) : 4 + t.size + 1 = (dTail n).length := by
  rw [tail_sz, ← tail_cat t n h]; rfl

set_option maxHeartbeats 8000000 in
theorem ref_Dump (s : ByteArray) (w : World) (hs : s.size ≤ 1000000) :
    Calls Try.prog 13 #[.string s] w fun e w' => (∃ t, e = .returned (.string t) ∧ Hid (t.data.toList = dumpL s.data.toList)) ∧ Below w.heap.size w w' := by
  have hlen : s.data.toList.length = s.size := rfl
  have HLEN := Lib.hid hlen
  clear hlen
  go_enter Try.func13, Try.ntmps13
  go_wp2_with fail
  go_loopw [3, 4] (fun v i wr => ∃ (k : Nat) (o : List UInt8), k ≤ s.size ∧ i = .int .i64 k ∧ Hid (o = dumpTo s.data.toList k) ∧ wr.ownsRow w.heap.size 5 1 v o.length (o.map bv) ∧ Below w.heap.size w wr) (fun _ i _ => s.size - (intOf i).toNat)
  case atStart => exact ⟨0, [], Nat.zero_le _, rfl, rfl, ⟨rfl, .inl ⟨rfl, rfl⟩⟩, Below.refl _ _⟩
  case round =>
    obtain ⟨k, o, hk, rfl, HO, hown, hbel⟩ := hrel
    have hsz := hbel.size
    by_cases hlt : k < s.size
    · obtain ⟨x, hx⟩ : ∃ x, s[k] = x := ⟨_, rfl⟩
      have hx8 := x.toNat_lt
      have hol : o.length ≤ 29 * k := by rw [HO.out]; exact dumpTo_length _ _ (by rw [HLEN.out]; omega) (by rw [HLEN.out]; omega)
      have HB : Hid (dBody s.data.toList k = (if k % 16 = 0 then [] else [32]) ++ [smallD (x.toNat / 16), smallD (x.toNat % 16)]) := by
        unfold Hid
        rw [dBody_eq _ _ (by rw [HLEN.out]; omega)]
        have e1 : s.data.toList[k]'(by rw [HLEN.out]; omega) = x := hx
        rw [e1]
      have HH := Lib.hid (hex2 x)
      have hltI : (k : Int) < s.size := by omega
      have hk0 : (0 : Int) ≤ k := by omega
      have K1 : Hid (∀ W : World, Calls Try.prog 24 #[.int .i64 ((x.toNat : Int) / 16)] W fun e w' => e = .returned (.int .u8 (smallN (x.toNat / 16) : Nat)) ∧ W = w') := fun W => ref_sign (x.toNat / 16) (by omega) W
      have K2 : Hid (∀ W : World, Calls Try.prog 24 #[.int .i64 ((x.toNat : Int) % 16)] W fun e w' => e = .returned (.int .u8 (smallN (x.toNat % 16) : Nat)) ∧ W = w') := fun W => ref_sign (x.toNat % 16) (by omega) W
      have q0 : IntKind.i64.wrap (x.toNat : Int) = (x.toNat : Int) := IntWalk.i64_in _ (by omega)
      have q1 : (x.toNat : Int).tdiv 16 = (x.toNat : Int) / 16 := Int.tdiv_eq_ediv_of_nonneg (by omega)
      have q2 : (x.toNat : Int).tmod 16 = (x.toNat : Int) % 16 := Int.tmod_eq_emod_of_nonneg (by omega)
      have q3 : IntKind.i64.wrap ((x.toNat : Int) / 16) = (x.toNat : Int) / 16 := IntWalk.i64_in _ (by omega)
      have q4 : IntKind.i64.wrap ((x.toNat : Int) % 16) = (x.toNat : Int) % 16 := IntWalk.i64_in _ (by omega)
      have KD : Hid (∀ W : World, Calls Try.prog 25 #[.int .i64 ((k : Int) - (k : Int) % 16)] W fun e w' => (∃ t, e = .returned (.string t) ∧ Hid (t.data.toList = Lib.decDigits (k - k % 16))) ∧ Below W.heap.size W w') := by
        intro W
        have h := ref_decimal (k - k % 16) W (by omega)
        rwa [show (((k - k % 16 : Nat) : Int)) = (k : Int) - (k : Int) % 16 by omega] at h
      have hcb := fun (W : World) (S : ByteArray) => Lib.run_convert_string_bytes (P := Try.prog) W 9 46 5 S Try.underlying9 Try.underlying46 Try.underlying5
      have HD : Hid (o ++ dBody s.data.toList k ++ (if k % 16 = 15 ∨ k + 1 = s.size then dTail (k - k % 16) else []) = dumpTo s.data.toList (k + 1)) := by
        unfold Hid
        rw [dumpTo, HO.out, HLEN.out]
      have hcat : ∀ T : ByteArray, Hid (T.data.toList = Lib.decDigits (k - k % 16)) → T.size ≤ 21 := by
        intro T hT
        have h1 := congrArg List.length hT.out
        have h2 := dec_length (k - k % 16) (by omega)
        have h3 : T.data.toList.length = T.size := rfl
        omega
      have HC := Lib.hid hcat
      have htl := dTail_length (k - k % 16) (by omega)
      have HE : Hid ((k % 16 = 15 ∧ ((k : Int) % 16 == 15) = true) ∨ (k % 16 ≠ 15 ∧ ((k : Int) % 16 == 15) = false ∧ k + 1 = s.size ∧ ((k : Int) == (s.size : Int) - 1) = true) ∨ (k % 16 ≠ 15 ∧ ((k : Int) % 16 == 15) = false ∧ k + 1 ≠ s.size ∧ ((k : Int) == (s.size : Int) - 1) = false)) := by
        by_cases h1 : k % 16 = 15
        · exact .inl ⟨h1, by rw [beq_iff_eq]; omega⟩
        · by_cases h2 : k + 1 = s.size
          · exact .inr (.inl ⟨h1, by rw [beq_eq_false_iff_ne]; omega, h2, by rw [beq_iff_eq]; omega⟩)
          · exact .inr (.inr ⟨h1, by rw [beq_eq_false_iff_ne]; omega, h2, by rw [beq_eq_false_iff_ne]; omega⟩)
      have HBL : Hid ((dBody s.data.toList k).length = if k % 16 = 0 then 2 else 3) := by unfold Hid; rw [HB.out]; split <;> rfl
      clear hcat
      by_cases h0 : k % 16 = 0
      · have H0 := Lib.hid (show (k % 16 = 0) = True from eq_true h0)
        rw [if_pos h0] at HB
        rcases HE.out with ⟨e1, e2⟩ | ⟨e1, e2, e3, e4⟩ | ⟨e1, e2, e3, e4⟩
        · exact absurd e1 (by omega)
        · rw [if_pos (by omega)] at HD
          clear HE
          have hownD : wr.drew.ownsRow w.heap.size 5 1 u3 o.length (o.map bv) := hown
          go_wp2_with fail
          go_region_law ((first
            | (refine step_call rfl 24 #[.int .i64 ((x.toNat : Int) / 16)] _ (by as_aux_lemma => kernel_rfl) (K1.out _) ?_; rintro e w6 ⟨rfl, rfl⟩; refine ⟨_, rfl, ?_⟩)
            | (refine step_call rfl 24 #[.int .i64 ((x.toNat : Int) % 16)] _ (by as_aux_lemma => kernel_rfl) (K2.out _) ?_; rintro e w6 ⟨rfl, rfl⟩; refine ⟨_, rfl, ?_⟩)
            | (refine step_append_new rfl rfl _ _ 46 rfl w.heap.size (.int .u8 0) 1 1 Try.underlying46 info_u8 rfl (by decide) _ (o.length) _ rfl hownD 2 rfl rfl (by simp [Value.oneCell']) (by omega) (by omega) (by exact hsz) (by decide) ?_; intro g1 c1 w3 hown1 hb1 hk1)))
          all_goals
            have bel3 := (hbel.drew).trans hb1
            have own3 : w3.ownsRow w.heap.size 5 1 _ (o ++ dBody s.data.toList k).length ((o ++ dBody s.data.toList k).map bv) := ownAt2 hown1 (by rw [List.length_append, HBL.out]; simp [H0.out]) (by rw [HB.out]; simp only [List.map_append, List.nil_append, HH.out])
            have hl3 : (o ++ dBody s.data.toList k).length ≤ 29 * k + 3 := by rw [List.length_append, HBL.out]; split <;> omega
            generalize o ++ dBody s.data.toList k = o3 at own3 hl3 HD
            clear hown1 hb1 hk1
            go_wp2_with fail
            refine (KD.out _).mono ?_
            rintro e w4 ⟨⟨t, rfl, ht⟩, hb4⟩
            have tsz := HC.out t ht
            have HS1 := Lib.hid (tail_cat t _ ht.out)
            have HS2 := Lib.hid (tail_len t _ ht.out)
            have bel4 := bel3.trans (hb4.mono bel3.size)
            have own4 := own_below own3 rfl hb4
            go_wp2_with (at_builtin; refine wpList_append_sl rfl _ _ 46 rfl w.heap.size 5 (.int .u8 0) 1 Try.underlying46 info_u8 rfl _ o3.length _ rfl (own_below own4 rfl (Go.Joins.below_bytesWorld _ w4 5 _ (Nat.le_refl _))) (some ⟨w4.heap.size, 0, none⟩) (4 + t.size + 1) _ _ rfl (sl_bytes2 w4 5 _ _ (tail_sz t)) (bv_oneCell _) (by omega) (by omega) (by rw [Lib.bytesWorld_size]; have := bel4.size; omega) ?_; intro v5 w5 hown5 hb5)
            have bel5 := (bel4.trans (Go.Joins.below_bytesWorld _ w4 5 _ bel4.size)).trans hb5
            rw [HS1.out, HS2.out, ← List.map_append, ← List.length_append] at hown5
            clear hb5 hb4 own3 own4 bel3 bel4
            go_wp2_with fail
            go_roundw
            case rel => exact ⟨k + 1, _, hlt, rfl, HD.out, hown5, bel5⟩
            case measure => simp [intOf]; omega
        · rw [if_neg (by omega), List.append_nil] at HD
          clear HE
          have hownD : wr.drew.ownsRow w.heap.size 5 1 u3 o.length (o.map bv) := hown
          go_wp2_with fail
          go_region_law ((first
            | (refine step_call rfl 24 #[.int .i64 ((x.toNat : Int) / 16)] _ (by as_aux_lemma => kernel_rfl) (K1.out _) ?_; rintro e w6 ⟨rfl, rfl⟩; refine ⟨_, rfl, ?_⟩)
            | (refine step_call rfl 24 #[.int .i64 ((x.toNat : Int) % 16)] _ (by as_aux_lemma => kernel_rfl) (K2.out _) ?_; rintro e w6 ⟨rfl, rfl⟩; refine ⟨_, rfl, ?_⟩)
            | (refine step_append_new rfl rfl _ _ 46 rfl w.heap.size (.int .u8 0) 1 1 Try.underlying46 info_u8 rfl (by decide) _ (o.length) _ rfl hownD 2 rfl rfl (by simp [Value.oneCell']) (by omega) (by omega) (by exact hsz) (by decide) ?_; intro g1 c1 w3 hown1 hb1 hk1)))
          all_goals
            have bel3 := (hbel.drew).trans hb1
            have own3 : w3.ownsRow w.heap.size 5 1 _ (o ++ dBody s.data.toList k).length ((o ++ dBody s.data.toList k).map bv) := ownAt2 hown1 (by rw [List.length_append, HBL.out]; simp [H0.out]) (by rw [HB.out]; simp only [List.map_append, List.nil_append, HH.out])
            have hl3 : (o ++ dBody s.data.toList k).length ≤ 29 * k + 3 := by rw [List.length_append, HBL.out]; split <;> omega
            generalize o ++ dBody s.data.toList k = o3 at own3 hl3 HD
            clear hown1 hb1 hk1
            go_wp2_with fail
            go_roundw
            case rel => exact ⟨k + 1, o3, hlt, rfl, HD.out, own3, bel3⟩
            case measure => simp [intOf]; omega
      · have H0 := Lib.hid (show (k % 16 = 0) = False from eq_false h0)
        rw [if_neg h0] at HB
        rcases HE.out with ⟨e1, e2⟩ | ⟨e1, e2, e3, e4⟩ | ⟨e1, e2, e3, e4⟩
        · rw [if_pos (by omega)] at HD
          clear HE
          go_wp2_with (at_builtin; refine wpList_append_new rfl _ _ 46 rfl w.heap.size (.int .u8 0) 1 1 Try.underlying46 info_u8 rfl (by decide) _ o.length _ rfl hown 1 rfl rfl (by simp [Value.oneCell']) (by omega) (by omega) hsz ?_; intro v1 w2 hown0 hb0 _; have hbel2 := hbel.trans hb0; have hsz2 := hbel2.size; have hownD : w2.drew.ownsRow w.heap.size 5 1 v1 (o.length + 1) _ := hown0)
          go_region_law ((first
            | (refine step_call rfl 24 #[.int .i64 ((x.toNat : Int) / 16)] _ (by as_aux_lemma => kernel_rfl) (K1.out _) ?_; rintro e w6 ⟨rfl, rfl⟩; refine ⟨_, rfl, ?_⟩)
            | (refine step_call rfl 24 #[.int .i64 ((x.toNat : Int) % 16)] _ (by as_aux_lemma => kernel_rfl) (K2.out _) ?_; rintro e w6 ⟨rfl, rfl⟩; refine ⟨_, rfl, ?_⟩)
            | (refine step_append_new rfl rfl _ _ 46 rfl w.heap.size (.int .u8 0) 1 1 Try.underlying46 info_u8 rfl (by decide) _ (o.length + 1) _ rfl hownD 2 rfl rfl (by simp [Value.oneCell']) (by omega) (by omega) (by exact hsz2) (by decide) ?_; intro g1 c1 w3 hown1 hb1 hk1)))
          all_goals
            have bel3 := (hbel2.drew).trans hb1
            have own3 : w3.ownsRow w.heap.size 5 1 _ (o ++ dBody s.data.toList k).length ((o ++ dBody s.data.toList k).map bv) := ownAt2 hown1 (by rw [List.length_append, HBL.out]; simp [H0.out]) (by rw [HB.out]; simp only [List.map_append, HH.out, List.append_assoc]; first | done | rfl)
            have hl3 : (o ++ dBody s.data.toList k).length ≤ 29 * k + 3 := by rw [List.length_append, HBL.out]; split <;> omega
            generalize o ++ dBody s.data.toList k = o3 at own3 hl3 HD
            clear hown1 hb1 hk1
            go_wp2_with fail
            refine (KD.out _).mono ?_
            rintro e w4 ⟨⟨t, rfl, ht⟩, hb4⟩
            have tsz := HC.out t ht
            have HS1 := Lib.hid (tail_cat t _ ht.out)
            have HS2 := Lib.hid (tail_len t _ ht.out)
            have bel4 := bel3.trans (hb4.mono bel3.size)
            have own4 := own_below own3 rfl hb4
            go_wp2_with (at_builtin; refine wpList_append_sl rfl _ _ 46 rfl w.heap.size 5 (.int .u8 0) 1 Try.underlying46 info_u8 rfl _ o3.length _ rfl (own_below own4 rfl (Go.Joins.below_bytesWorld _ w4 5 _ (Nat.le_refl _))) (some ⟨w4.heap.size, 0, none⟩) (4 + t.size + 1) _ _ rfl (sl_bytes2 w4 5 _ _ (tail_sz t)) (bv_oneCell _) (by omega) (by omega) (by rw [Lib.bytesWorld_size]; have := bel4.size; omega) ?_; intro v5 w5 hown5 hb5)
            have bel5 := (bel4.trans (Go.Joins.below_bytesWorld _ w4 5 _ bel4.size)).trans hb5
            rw [HS1.out, HS2.out, ← List.map_append, ← List.length_append] at hown5
            clear hb5 hb4 own3 own4 bel3 bel4
            go_wp2_with fail
            go_roundw
            case rel => exact ⟨k + 1, _, hlt, rfl, HD.out, hown5, bel5⟩
            case measure => simp [intOf]; omega
        · rw [if_pos (by omega)] at HD
          clear HE
          go_wp2_with (at_builtin; refine wpList_append_new rfl _ _ 46 rfl w.heap.size (.int .u8 0) 1 1 Try.underlying46 info_u8 rfl (by decide) _ o.length _ rfl hown 1 rfl rfl (by simp [Value.oneCell']) (by omega) (by omega) hsz ?_; intro v1 w2 hown0 hb0 _; have hbel2 := hbel.trans hb0; have hsz2 := hbel2.size; have hownD : w2.drew.ownsRow w.heap.size 5 1 v1 (o.length + 1) _ := hown0)
          go_region_law ((first
            | (refine step_call rfl 24 #[.int .i64 ((x.toNat : Int) / 16)] _ (by as_aux_lemma => kernel_rfl) (K1.out _) ?_; rintro e w6 ⟨rfl, rfl⟩; refine ⟨_, rfl, ?_⟩)
            | (refine step_call rfl 24 #[.int .i64 ((x.toNat : Int) % 16)] _ (by as_aux_lemma => kernel_rfl) (K2.out _) ?_; rintro e w6 ⟨rfl, rfl⟩; refine ⟨_, rfl, ?_⟩)
            | (refine step_append_new rfl rfl _ _ 46 rfl w.heap.size (.int .u8 0) 1 1 Try.underlying46 info_u8 rfl (by decide) _ (o.length + 1) _ rfl hownD 2 rfl rfl (by simp [Value.oneCell']) (by omega) (by omega) (by exact hsz2) (by decide) ?_; intro g1 c1 w3 hown1 hb1 hk1)))
          all_goals
            have bel3 := (hbel2.drew).trans hb1
            have own3 : w3.ownsRow w.heap.size 5 1 _ (o ++ dBody s.data.toList k).length ((o ++ dBody s.data.toList k).map bv) := ownAt2 hown1 (by rw [List.length_append, HBL.out]; simp [H0.out]) (by rw [HB.out]; simp only [List.map_append, HH.out, List.append_assoc]; first | done | rfl)
            have hl3 : (o ++ dBody s.data.toList k).length ≤ 29 * k + 3 := by rw [List.length_append, HBL.out]; split <;> omega
            generalize o ++ dBody s.data.toList k = o3 at own3 hl3 HD
            clear hown1 hb1 hk1
            go_wp2_with fail
            refine (KD.out _).mono ?_
            rintro e w4 ⟨⟨t, rfl, ht⟩, hb4⟩
            have tsz := HC.out t ht
            have HS1 := Lib.hid (tail_cat t _ ht.out)
            have HS2 := Lib.hid (tail_len t _ ht.out)
            have bel4 := bel3.trans (hb4.mono bel3.size)
            have own4 := own_below own3 rfl hb4
            go_wp2_with (at_builtin; refine wpList_append_sl rfl _ _ 46 rfl w.heap.size 5 (.int .u8 0) 1 Try.underlying46 info_u8 rfl _ o3.length _ rfl (own_below own4 rfl (Go.Joins.below_bytesWorld _ w4 5 _ (Nat.le_refl _))) (some ⟨w4.heap.size, 0, none⟩) (4 + t.size + 1) _ _ rfl (sl_bytes2 w4 5 _ _ (tail_sz t)) (bv_oneCell _) (by omega) (by omega) (by rw [Lib.bytesWorld_size]; have := bel4.size; omega) ?_; intro v5 w5 hown5 hb5)
            have bel5 := (bel4.trans (Go.Joins.below_bytesWorld _ w4 5 _ bel4.size)).trans hb5
            rw [HS1.out, HS2.out, ← List.map_append, ← List.length_append] at hown5
            clear hb5 hb4 own3 own4 bel3 bel4
            go_wp2_with fail
            go_roundw
            case rel => exact ⟨k + 1, _, hlt, rfl, HD.out, hown5, bel5⟩
            case measure => simp [intOf]; omega
        · rw [if_neg (by omega), List.append_nil] at HD
          clear HE
          go_wp2_with (at_builtin; refine wpList_append_new rfl _ _ 46 rfl w.heap.size (.int .u8 0) 1 1 Try.underlying46 info_u8 rfl (by decide) _ o.length _ rfl hown 1 rfl rfl (by simp [Value.oneCell']) (by omega) (by omega) hsz ?_; intro v1 w2 hown0 hb0 _; have hbel2 := hbel.trans hb0; have hsz2 := hbel2.size; have hownD : w2.drew.ownsRow w.heap.size 5 1 v1 (o.length + 1) _ := hown0)
          go_region_law ((first
            | (refine step_call rfl 24 #[.int .i64 ((x.toNat : Int) / 16)] _ (by as_aux_lemma => kernel_rfl) (K1.out _) ?_; rintro e w6 ⟨rfl, rfl⟩; refine ⟨_, rfl, ?_⟩)
            | (refine step_call rfl 24 #[.int .i64 ((x.toNat : Int) % 16)] _ (by as_aux_lemma => kernel_rfl) (K2.out _) ?_; rintro e w6 ⟨rfl, rfl⟩; refine ⟨_, rfl, ?_⟩)
            | (refine step_append_new rfl rfl _ _ 46 rfl w.heap.size (.int .u8 0) 1 1 Try.underlying46 info_u8 rfl (by decide) _ (o.length + 1) _ rfl hownD 2 rfl rfl (by simp [Value.oneCell']) (by omega) (by omega) (by exact hsz2) (by decide) ?_; intro g1 c1 w3 hown1 hb1 hk1)))
          all_goals
            have bel3 := (hbel2.drew).trans hb1
            have own3 : w3.ownsRow w.heap.size 5 1 _ (o ++ dBody s.data.toList k).length ((o ++ dBody s.data.toList k).map bv) := ownAt2 hown1 (by rw [List.length_append, HBL.out]; simp [H0.out]) (by rw [HB.out]; simp only [List.map_append, HH.out, List.append_assoc]; first | done | rfl)
            have hl3 : (o ++ dBody s.data.toList k).length ≤ 29 * k + 3 := by rw [List.length_append, HBL.out]; split <;> omega
            generalize o ++ dBody s.data.toList k = o3 at own3 hl3 HD
            clear hown1 hb1 hk1
            go_wp2_with fail
            go_roundw
            case rel => exact ⟨k + 1, o3, hlt, rfl, HD.out, own3, bel3⟩
            case measure => simp [intOf]; omega
    · obtain rfl : k = s.size := by omega
      obtain ⟨t, hconv, hS⟩ := string_row _ 46 9 Try.underlying46 Try.underlying5 Try.underlying9 hown
      go_wp2_with fail
      go_returns
      exact ⟨⟨t, rfl, by unfold Hid dumpL; rw [hS.out, HO.out, HLEN.out]⟩, hbel⟩
end Go.Proofs.Ytepgnnlihnajeaa
