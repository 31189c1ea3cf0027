/- Layer 37, plain: no recipe's words stand ahead of another one's. -/
import Derived.Test.YtdkkomcokefkhaaDoorRcU
namespace Go.Proofs.YtdkkomcokefkhaaDoor
open Go.RowKit

theorem run_on {t f : Int} {I : Nat → UInt32} {ps : List Int} {ds : List (Nat → UInt32)} {r : List UInt32} (hr : rightR t I ps ds.length f = true) {a : UInt32} {d : Nat → UInt32} {g n : UInt32} {qs : List Int} {m : UInt32} {es : List (Nat → UInt32)} {st : St32}
    (h : Run (wordsR t I ps ds f ++ r) a d g n qs m es st) : st = (r, false) := by
  obtain ⟨⟨t1, t6⟩, ⟨f0, f8⟩, hp20, hpa, hm20⟩ := rr_in hr
  obtain ⟨s1, s2, s3, s4, s5, s6, k1, k2, k3, k4, k5, k6, k7⟩ := h.s
  unfold wordsR headR at k1
  simp only [List.append_assoc, List.cons_append, List.nil_append] at k1
  rw [tkW_cons] at k1
  injection k1 with k1 e1
  subst e1
  rw [tkD_dgL] at k2
  injection k2 with k2 e2
  subst e2
  rw [tkW_cons] at k3
  injection k3 with k3 e3
  subst e3
  rw [tkW_cons] at k4
  injection k4 with k4 e4
  subst e4
  have hn : n.toNat = ps.length := by rw [← k4, UInt32.toNat_ofNat']; omega
  rw [hn, ← flat_one, loop_ok (enc := fun p => [wI p]) (g := id) ps (fun x hx r => by
    have hx2 := hpa x hx
    show ((((wI x).toNat : Nat) : Int), (r, false)) = _
    rw [wI_val (by omega) (by omega)]
    rfl)] at k5
  injection k5 with k5 e5
  subst e5
  rw [tkW_cons] at k6
  injection k6 with k6 e6
  subst e6
  have hm : m.toNat = ds.length := by rw [← k6, UInt32.toNat_ofNat']; omega
  rw [hm] at k7
  have h7 := loop_ok (f := tkD) (enc := dgL) (g := fun d => mk4 (d 0) (d 1) (d 2) (d 3)) ds (fun x _ r => tkD_dgL x r) r []
  rw [h7] at k7
  injection k7 with _ e7
  exact e7.symm
theorem words_prefix {t t' f f' : Int} {I I' : Nat → UInt32} {ps ps' : List Int} {ds ds' : List (Nat → UInt32)} {r : List UInt32} (hr : rightR t I ps ds.length f = true) (hr' : rightR t' I' ps' ds'.length f' = true) (h : wordsR t I ps ds f ++ r = wordsR t' I' ps' ds' f') : r = [] := by
  obtain ⟨a, d, g, n, qs, m, es, st, hR⟩ := run_ex (wordsR t I ps ds f ++ r)
  have h1 := run_on hr hR
  rw [h] at hR
  obtain ⟨h2, _⟩ := run_ok hr' hR
  rw [h2] at h1
  exact (Prod.mk.inj h1).1.symm
/-- If the bytes of one stand ahead of the other one's they are alike. -/
theorem bytes_prefix {t t' f f' : Int} {I I' : Nat → UInt32} {ps ps' : List Int} {ds ds' : List (Nat → UInt32)} (hr : rightR t I ps ds.length f = true) (hr' : rightR t' I' ps' ds'.length f' = true)
    (h : (bytesR t' I' ps' ds' f').take (bytesR t I ps ds f).length = bytesR t I ps ds f) : sameR t t' I I' f f' ps ps' ds ds' = true := by
  unfold bytesR at h
  rw [List.length_cons, List.take_succ_cons] at h
  have h2 := (List.cons.inj h).2
  obtain ⟨x, hx⟩ : ∃ x, wordsR t I ps ds f = x := ⟨_, rfl⟩
  obtain ⟨y, hy⟩ : ∃ y, wordsR t' I' ps' ds' f' = y := ⟨_, rfl⟩
  rw [hx, hy] at h2
  have e : leBytes y = leBytes x ++ (leBytes y).drop (leBytes x).length := by
    conv => lhs; rw [← List.take_append_drop (leBytes x).length (leBytes y), h2]
  have e2 : y = x ++ wordsL ((leBytes y).drop (leBytes x).length) := by
    conv => lhs; rw [← words_le y, e, wordsL_append _ _ x.length (leBytes_length x), words_le]
  rw [← hx, ← hy] at e2
  have e3 := words_prefix hr hr' e2.symm
  rw [e3, List.append_nil] at e2
  exact words_inj hr hr' e2.symm
theorem same_len {t t' f f' : Int} {I I' : Nat → UInt32} {ps ps' : List Int} {ds ds' : List (Nat → UInt32)} (h : sameR t t' I I' f f' ps ps' ds ds' = true) : bytesR t I ps ds f = bytesR t' I' ps' ds' f' := bytesR_eq.2 (words_same h)
end Go.Proofs.YtdkkomcokefkhaaDoor
