/- The law ListingTargets, walked. -/
import Derived.Test.YtneebohaanjejaaDoorLk
import Derived.Test.YtneebohaanjejaaDoorLv
namespace Go.Proofs.YtneebohaanjejaaDoor
open Go.RowKit

theorem sl_targ {w : World} {B n : Nat} {A : Option Addr} {l : List Nat} (h : Sl w B A n (l.map tv)) {k : Nat} (hk : k < l.length) : ∃ b off, A = some ⟨b, off, none⟩ ∧ b < B ∧ w.cell? ⟨b, off + k, none⟩ = some (.int .i64 (l[k] : Int)) := by
  have hl : l.length = n := by simpa using h.1
  obtain ⟨b, off, u, e, hlt, hu, hc⟩ := h.at_ (k := k) (by omega)
  rw [List.getElem?_map, List.getElem?_eq_getElem hk] at hu
  injection hu with hu
  exact ⟨b, off, e, hlt, by rw [hc, ← hu]; rfl⟩
set_option maxHeartbeats 1000000 in
theorem ltargets_walk (code : List UInt32) (A : Option Addr) (c : Nat) (d : Int) (w : World) (hA : Sl w w.heap.size A code.length (code.map wv)) (hp : Pow10 w) :
    Calls Tryd.prog 4 #[.agg #[.slice A code.length c, .int .i64 d]] w fun e w' => e = .returned (.bool true) ∧ Below w.heap.size w w' := by
  have KA := Lib.hid ls_awake
  have T0 := Tg.new w A code.length c d
  have hp0 := hp.below T0.bel
  by_cases hbig : 400 < code.length
  · have hI : (400 : Int) < code.length := by omega
    clear hbig
    go_enter Tryd.func4, Tryd.ntmps4
    go_wp2_with fail
    refine (KA.out _ hp0).mono ?_
    rintro e w1 ⟨rfl, b1⟩
    have T1 := T0.below b1
    have t0 := T1.cells.1
    go_wp2_with fail
    go_returns
    exact ⟨rfl, T1.bel⟩
  · have hI : ¬ (400 : Int) < code.length := by omega
    have hn : code.length ≤ 20000 := by omega
    have K1 := Lib.hid (fun (W : World) (h : Below w.heap.size w W) => listing_Targets A code c d W ((hA.below h).more h.size) hn)
    have K2 := Lib.hid (fun (W : World) (h : Below w.heap.size w W) => ref11_Targets A code c d W ((hA.below h).more h.size) hn)
    have hlen : ((targL code).length : Int) ≤ 400 := by have := targL_len code; omega
    clear hbig
    go_enter Tryd.func4, Tryd.ntmps4
    go_wp2_with fail
    refine (KA.out _ hp0).mono ?_
    rintro e w1 ⟨rfl, b1⟩
    have T1 := T0.below b1
    have t0 := T1.cells.1
    have t1 := T1.cells.2
    go_wp2_with fail
    refine (K1.out _ T1.bel).mono ?_
    rintro e w2 ⟨⟨B1, c1, rfl, S1⟩, b2⟩
    have T2 := T1.below b2
    have u0 := T2.cells.1
    have u1 := T2.cells.2
    clear t0 t1 T0 hp0 b1 b2 T1
    go_wp2_with fail
    refine (K2.out _ T2.bel).mono ?_
    rintro e w3 ⟨⟨B2, c2, rfl, S2, _⟩, b3⟩
    have S1' := S1.below b3
    have hb := (T2.below b3).bel
    clear u0 u1 T2 S1 b3
    go_wp2_with fail
    go_loopw [5] (fun i wr => ∃ j : Nat, j ≤ (targL code).length ∧ i = .int .i64 j ∧ Sl wr w2.heap.size B1 (targL code).length ((targL code).map tv) ∧ Sl wr w3.heap.size B2 (targL code).length ((targL code).map tv) ∧ Below w.heap.size w wr) (fun i _ => (targL code).length - (intOf i).toNat)
    case atStart => exact ⟨0, Nat.zero_le _, rfl, S1', S2, hb⟩
    case round =>
      clear S1' S2 hb
      obtain ⟨j, hj, rfl, h1, h2, hb⟩ := hrel
      by_cases hlt : j < (targL code).length
      · obtain ⟨x1, o1, rfl, _, e1⟩ := sl_targ h1 hlt
        obtain ⟨x2, o2, rfl, _, e2⟩ := sl_targ h2 hlt
        obtain ⟨y, hy⟩ : ∃ y, (targL code)[j] = y := ⟨_, rfl⟩
        rw [hy] at e1 e2
        have hjI : (j : Int) < (targL code).length := by omega
        have hj0 : (0 : Int) ≤ j := by omega
        have H1 := Lib.hid h1
        have H2 := Lib.hid h2
        have HB := Lib.hid hb
        clear h1 h2 hb hy
        go_wp2_with fail
        go_quiet (fail)
        go_wp2_with fail
        go_roundw
        case rel => exact ⟨j + 1, hlt, by simp, H1.out, H2.out, below_drewN HB.out _⟩
        case measure => simp [intOf]; omega
      · obtain rfl : j = (targL code).length := by omega
        clear h1 h2
        go_wp2_with fail
        go_returns
        exact ⟨rfl, hb⟩
end Go.Proofs.YtneebohaanjejaaDoor
