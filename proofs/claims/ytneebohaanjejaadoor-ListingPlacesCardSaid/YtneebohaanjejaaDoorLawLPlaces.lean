/- The law ListingPlaces, walked. -/
import Derived.Test.YtneebohaanjejaaDoorLk
import Derived.Test.YtneebohaanjejaaDoorLawLTargets
namespace Go.Proofs.YtneebohaanjejaaDoor
open Go.RowKit

theorem setB_step {code : List UInt32} {j : Nat} (hj : j < code.length) (p : Int) : setB code (j + 1) p = (setB code j p || (jmpB code[j] && decide (cD code[j] = p) && decide (p < (code.length : Int)))) := by
  unfold setB
  rw [List.take_succ_eq_append_getElem hj, List.any_append]
  simp only [List.any_cons, List.any_nil, Bool.or_false, Bool.and_or_distrib_right]
def fndB (l : List Nat) (j : Nat) (p : Int) : Bool := (l.take j).any fun t => decide ((t : Int) = p)
theorem fnd_step {l : List Nat} {j : Nat} (hj : j < l.length) (p : Int) : fndB l (j + 1) p = (fndB l j p || decide ((l[j] : Int) = p)) := by
  unfold fndB
  rw [List.take_succ_eq_append_getElem hj, List.any_append]
  simp
theorem fnd_end (code : List UInt32) (p : Int) : fndB (targL code) (targL code).length p = setB code code.length p := by
  unfold fndB
  rw [List.take_of_length_le (Nat.le_refl _)]
  by_cases hp : p < 0
  · rw [setB_neg _ _ hp, List.any_eq_false]
    intro t _
    rw [decide_eq_true_eq]
    omega
  · rw [show p = ((p.toNat : Nat) : Int) by omega, setB_all, Bool.eq_iff_iff, List.any_eq_true, Bool.and_eq_true, decide_eq_true_iff]
    constructor
    · rintro ⟨t, ht, h⟩
      have h2 := of_decide_eq_true h
      obtain rfl : t = p.toNat := by omega
      obtain ⟨h3, h4⟩ := mem_targ.1 ht
      exact ⟨h4, h3⟩
    · rintro ⟨h1, h2⟩
      exact ⟨p.toNat, mem_targ.2 ⟨h2, h1⟩, decide_eq_true rfl⟩
theorem targ_sorted (code : List UInt32) {j : Nat} (hj : j + 1 < (targL code).length) : (targL code)[j] < (targL code)[j + 1] := by
  have h : (targL code).Pairwise (· < ·) := by
    unfold targL
    exact List.Pairwise.filter _ List.pairwise_lt_range
  exact List.pairwise_iff_getElem.1 h j (j + 1) (by omega) hj (Nat.lt_succ_self j)

set_option maxRecDepth 100000 in
set_option maxHeartbeats 4000000 in
theorem lplaces_walk (code : List UInt32) (A : Option Addr) (c : Nat) (d : Int) (p : Int) (w : World) (hA : Sl w w.heap.size A code.length (code.map wv)) (hp : Pow10 w) :
    Calls Tryd.prog 7 #[.agg #[.slice A code.length c, .int .i64 d], .int .i64 p] w fun e w' => e = .returned (.bool true) ∧ Below w.heap.size w w' := by
  have KA := Lib.hid ls_awake
  have T0 := Tg.new w A code.length c d
  have hp0 := hp.below T0.bel
  by_cases hbig : 400 < code.length
  · have hI : (400 : Int) < code.length := by omega
    clear hbig
    go_enter Tryd.func7, Tryd.ntmps7
    go_wp2_with fail
    refine (KA.out _ hp0).mono ?_
    rintro e w1 ⟨rfl, b1⟩
    have T1 := T0.below b1
    have t0 := T1.cells.1
    go_wp2_with fail
    go_returns
    exact ⟨rfl, T1.bel⟩
  have hI : ¬ (400 : Int) < code.length := by omega
  have hn : code.length ≤ 20000 := by omega
  have K1 := Lib.hid (fun (W : World) (h : Below w.heap.size w W) => listing_Targets A code c d W ((hA.below h).more h.size) hn)
  have hlen : ((targL code).length : Int) ≤ 400 := by have := targL_len code; omega
  clear hbig
  go_enter Tryd.func7, Tryd.ntmps7
  go_wp2_with fail
  refine (KA.out _ hp0).mono ?_
  rintro e w1 ⟨rfl, b1⟩
  have T1 := T0.below b1
  have t0 := T1.cells.1
  clear b1 T0 hp0
  go_wp2_with fail
  go_loopw [6, 5] (fun i v wr => ∃ j : Nat, j ≤ code.length ∧ i = .int .i64 j ∧ v = .bool (setB code j p) ∧ Tg w A code.length c d wr) (fun i _ _ => code.length - (intOf i).toNat)
  case atStart => exact ⟨0, Nat.zero_le _, rfl, by rw [setB_zero], T1⟩
  case round =>
    clear T1 t0
    obtain ⟨j, hj, rfl, rfl, hT⟩ := hrel
    have t0 := hT.cells.1
    by_cases hlt : j < code.length
    · obtain ⟨bk, off, rfl, hbk, hc⟩ := (hA.below hT.bel).word hlt
      have hjI : (j : Int) < code.length := by omega
      have hj0 : (0 : Int) ≤ j := by omega
      have HS := Lib.hid (setB_step hlt p)
      obtain ⟨x, hx⟩ : ∃ x, code[j] = x := ⟨_, rfl⟩
      rw [hx] at hc HS
      have HT := Lib.hid hT
      clear hx hT
      cases hd : decB x with
      | false =>
        have KD := Lib.hid (fun W => inst_Decode_bad x W hd)
        have hjm : jmpB x = false := by unfold jmpB; rw [hd]; rfl
        rw [hjm, Bool.false_and, Bool.false_and, Bool.or_false] at HS
        clear hd hjm
        have HS2 := Lib.hid (show setB code (j + 1) p = setB code j p from HS.out)
        cases hv : setB code j p
        all_goals
          rw [hv] at HS2
          clear hv HS
          go_wp2_with fail
          refine (KD.out _).mono ?_
          rintro e w2 ⟨rfl, b2⟩
          have T2 := (HT.out.below b2).alloc (.cells #[.int .i64 0, .int .i64 0, .int .i64 0, .int .i64 0] 42)
          have t1 := T2.cells.1
          have HT2 := Lib.hid T2
          clear T2 b2 t0 hc
          go_wp2_with fail
          go_roundw
          case rel => exact ⟨j + 1, hlt, by simp, by rw [HS2.out], HT2.out⟩
          case measure => simp [intOf]; omega
      | true =>
        have KD := Lib.hid (fun W => inst_Decode_ok x W hd)
        have hcase : (setB code j p = true) ∨ (setB code j p = false ∧ p < 0) ∨ (setB code j p = false ∧ 0 ≤ p ∧ (code.length : Int) ≤ p) ∨ (setB code j p = false ∧ 0 ≤ p ∧ p < (code.length : Int) ∧ cD x ≠ p) ∨ (setB code j p = false ∧ 0 ≤ p ∧ p < (code.length : Int) ∧ cD x = p) := by
          cases setB code j p with
          | true => exact .inl rfl
          | false => simp; omega
        rcases hcase with hv | ⟨hv, h1⟩ | ⟨hv, h1, h2⟩ | ⟨hv, h1, h2, h3⟩ | ⟨hv, h1, h2, h3⟩
        · have HS2 := Lib.hid (show setB code (j + 1) p = true by rw [HS.out, hv]; rfl)
          rw [hv]
          clear hv
          clear HS hd
          generalize opD x = o at *
          generalize aD x = p1 at *
          generalize bD x = p2 at *
          generalize cD x = p3 at *
          go_wp2_with fail
          refine (KD.out _).mono ?_
          rintro e w2 ⟨rfl, b2⟩
          have T2 := (HT.out.below b2).alloc (.cells #[.int .i64 o, .int .i64 p1, .int .i64 p2, .int .i64 p3] 42)
          have t1 := T2.cells.1
          have HT2 := Lib.hid T2
          clear T2 b2 t0 hc
          go_wp2_with fail
          go_roundw
          case rel => exact ⟨j + 1, hlt, by simp, by rw [HS2.out], HT2.out⟩
          case measure => simp [intOf]; omega
        · have HS2 := Lib.hid (show setB code (j + 1) p = false by rw [HS.out, hv, decide_eq_false (show ¬ cD x = p by have := cD_lt x; omega), Bool.and_false]; rfl)
          rw [hv]
          clear hv
          clear HS hd
          generalize opD x = o at *
          generalize aD x = p1 at *
          generalize bD x = p2 at *
          generalize cD x = p3 at *
          go_wp2_with fail
          refine (KD.out _).mono ?_
          rintro e w2 ⟨rfl, b2⟩
          have T2 := (HT.out.below b2).alloc (.cells #[.int .i64 o, .int .i64 p1, .int .i64 p2, .int .i64 p3] 42)
          have t1 := T2.cells.1
          have HT2 := Lib.hid T2
          clear T2 b2 t0 hc
          go_wp2_with fail
          go_roundw
          case rel => exact ⟨j + 1, hlt, by simp, by rw [HS2.out], HT2.out⟩
          case measure => simp [intOf]; omega
        · have HS2 := Lib.hid (show setB code (j + 1) p = false by rw [HS.out, hv, decide_eq_false (show ¬ p < (code.length : Int) by omega), Bool.and_false]; rfl)
          rw [hv]
          clear hv
          clear HS hd
          generalize opD x = o at *
          generalize aD x = p1 at *
          generalize bD x = p2 at *
          generalize cD x = p3 at *
          go_wp2_with fail
          refine (KD.out _).mono ?_
          rintro e w2 ⟨rfl, b2⟩
          have T2 := (HT.out.below b2).alloc (.cells #[.int .i64 o, .int .i64 p1, .int .i64 p2, .int .i64 p3] 42)
          have t1 := T2.cells.1
          have HT2 := Lib.hid T2
          clear T2 b2 t0 hc
          go_wp2_with fail
          go_roundw
          case rel => exact ⟨j + 1, hlt, by simp, by rw [HS2.out], HT2.out⟩
          case measure => simp [intOf]; omega
        · have HS2 := Lib.hid (show setB code (j + 1) p = false by rw [HS.out, hv, decide_eq_false h3, Bool.and_false]; rfl)
          have q : (cD x == p) = false := by rw [beq_eq_false_iff_ne]; exact h3
          rw [hv]
          clear hv h3
          clear HS hd
          generalize opD x = o at *
          generalize aD x = p1 at *
          generalize bD x = p2 at *
          generalize cD x = p3 at *
          go_wp2_with fail
          refine (KD.out _).mono ?_
          rintro e w2 ⟨rfl, b2⟩
          have T2 := (HT.out.below b2).alloc (.cells #[.int .i64 o, .int .i64 p1, .int .i64 p2, .int .i64 p3] 42)
          have t1 := T2.cells.1
          have HT2 := Lib.hid T2
          clear T2 b2 t0 hc
          go_wp2_with fail
          go_roundw
          case rel => exact ⟨j + 1, hlt, by simp, by rw [HS2.out], HT2.out⟩
          case measure => simp [intOf]; omega
        · rcases jmp_cases x with ⟨hn2, _⟩ | ⟨_, hj2, ho⟩ | ⟨_, hj2, ho⟩
          · rw [hd] at hn2; exact absurd hn2 (by decide)
          · have HS2 := Lib.hid (show setB code (j + 1) p = false by rw [HS.out, hv, hj2]; rfl)
            have q18 : (opD x == 18) = false := by rw [beq_eq_false_iff_ne]; omega
            have q19 : (opD x == 19) = false := by rw [beq_eq_false_iff_ne]; omega
            have q20 : (opD x == 20) = false := by rw [beq_eq_false_iff_ne]; omega
            have q21 : (opD x == 21) = false := by rw [beq_eq_false_iff_ne]; omega
            rw [h3] at KD
            rw [hv]
            clear hv h3 hj2 ho
            clear HS hd
            generalize opD x = o at *
            generalize aD x = p1 at *
            generalize bD x = p2 at *
            go_wp2_with fail
            refine (KD.out _).mono ?_
            rintro e w2 ⟨rfl, b2⟩
            have T2 := (HT.out.below b2).alloc (.cells #[.int .i64 o, .int .i64 p1, .int .i64 p2, .int .i64 p] 42)
            have t1 := T2.cells.1
            have HT2 := Lib.hid T2
            clear T2 b2 t0 hc
            go_wp2_with fail
            go_roundw
            case rel => exact ⟨j + 1, hlt, by simp, by rw [HS2.out], HT2.out⟩
            case measure => simp [intOf]; omega
          · have HS2 := Lib.hid (show setB code (j + 1) p = true by rw [HS.out, hv, hj2, decide_eq_true h3, decide_eq_true h2]; rfl)
            rw [h3] at KD
            rw [hv]
            clear hv h3 hj2
            rcases ho with ho | ho | ho | ho
            all_goals
              rw [ho] at KD
              clear ho
              clear HS hd
              generalize aD x = p1 at *
              generalize bD x = p2 at *
              go_wp2_with fail
              refine (KD.out _).mono ?_
              rintro e w2 ⟨rfl, b2⟩
              have T2 := fun o : Int => (HT.out.below b2).alloc (.cells #[.int .i64 o, .int .i64 p1, .int .i64 p2, .int .i64 p] 42)
              have t18 := (T2 18).cells.1
              have t19 := (T2 19).cells.1
              have t20 := (T2 20).cells.1
              have t21 := (T2 21).cells.1
              have HT2 := Lib.hid T2
              clear T2 b2 t0 hc
              go_wp2_with fail
              go_roundw
              case rel => exact ⟨j + 1, hlt, by simp, by rw [HS2.out], HT2.out _⟩
              case measure => simp [intOf]; omega
    · obtain rfl : j = code.length := by omega
      have t1 := hT.cells.2
      go_wp2_with fail
      refine (K1.out _ hT.bel).mono ?_
      rintro e w3 ⟨⟨B1, c1, rfl, S1⟩, b3⟩
      have hb := (hT.below b3).bel
      have HE := Lib.hid (fnd_end code p)
      have HSo := Lib.hid (fun j (h : j + 1 < (targL code).length) => targ_sorted code h)
      generalize setB code code.length p = z at HE ⊢
      clear t0 t1 hT b3 K1
      go_wp2_with fail
      go_loopw [11, 10] (fun i v wr => ∃ j : Nat, j ≤ (targL code).length ∧ i = .int .i64 j ∧ v = .bool (fndB (targL code) j p) ∧ Sl wr w3.heap.size B1 (targL code).length ((targL code).map tv) ∧ Below w.heap.size w wr) (fun i _ _ => (targL code).length - (intOf i).toNat)
      case atStart => exact ⟨0, Nat.zero_le _, rfl, rfl, S1, hb⟩
      case round =>
        clear S1 hb
        obtain ⟨j, hj, rfl, rfl, h1, hb⟩ := hrel
        by_cases hlt : j < (targL code).length
        · have hjI : (j : Int) < (targL code).length := by omega
          have hj0 : (0 : Int) ≤ j := by omega
          obtain ⟨x1, o1, rfl, _, e1⟩ := sl_targ h1 hlt
          have HF := Lib.hid (fnd_step hlt p)
          have H1 := Lib.hid h1
          have HB := Lib.hid hb
          obtain ⟨y, hy⟩ : ∃ y, (targL code)[j] = y := ⟨_, rfl⟩
          rw [hy] at e1 HF
          cases hv : fndB (targL code) j p
          all_goals
            rw [hv] at HF
            by_cases hyp : (y : Int) = p
            all_goals
              have HF2 : Hid (fndB (targL code) (j + 1) p = _) := Lib.hid (HF.out.trans (by first | rw [decide_eq_true hyp] | rw [decide_eq_false hyp]))
              first
                | (have q1 : ((y : Int) == p) = true := by rw [beq_iff_eq]; exact hyp)
                | (have q1 : ((y : Int) == p) = false := by rw [beq_eq_false_iff_ne]; exact hyp)
              by_cases hj1 : 0 < j
              · obtain ⟨k, rfl⟩ : ∃ k, j = k + 1 := ⟨j - 1, by omega⟩
                obtain ⟨x2, o2, e3, _, e2⟩ := sl_targ h1 (show k < (targL code).length by omega)
                injection e3 with e3
                injection e3 with e4 e5 _
                subst e4 e5
                have hlt2 := HSo.out k hlt
                rw [hy] at hlt2
                obtain ⟨v, hv2⟩ : ∃ v, (targL code)[k] = v := ⟨_, rfl⟩
                rw [hv2] at e2 hlt2
                have q2 : ¬ (y : Int) ≤ (v : Int) := by omega
                have q3 : (v : Int) < (y : Int) := by omega
                have hjp : (0 : Int) < ((k + 1 : Nat) : Int) := by omega
                have hk0 : (0 : Int) ≤ (k : Int) := by omega
                have hkI : (k : Int) < (targL code).length := by omega
                clear h1 hb hy hv hv2 hyp HF hlt2
                go_wp2_with fail
                go_quiet (fail)
                go_wp2_with fail
                go_roundw
                case rel => exact ⟨k + 1 + 1, hlt, by simp, by rw [HF2.out]; rfl, H1.out, below_drewN HB.out _⟩
                case measure => simp [intOf]; omega
              · obtain rfl : j = 0 := by omega
                rw [Nat.add_zero] at e1
                clear h1 hb hy hv hyp HF
                go_wp2_with fail
                go_quiet (fail)
                go_wp2_with fail
                go_roundw
                case rel => exact ⟨0 + 1, hlt, by simp, by rw [HF2.out]; rfl, H1.out, below_drewN HB.out _⟩
                case measure => simp [intOf]; omega
        · obtain rfl : j = (targL code).length := by omega
          rw [HE.out]
          clear h1
          go_wp2_with fail
          go_returns
          exact ⟨ret_bool (by simp), hb⟩
end Go.Proofs.YtneebohaanjejaaDoor
