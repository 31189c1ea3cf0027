/- Layer 8, plain: an image's bytes and their reading. -/
import Derived.Test.YthfdjfgmgoafnaaDoorImgP
import Derived.Test.YthfdjfgmgoafnaaDoorImgR
namespace Go.Proofs.YthfdjfgmgoafnaaDoor

theorem read_put {l : List UInt8} {code : List UInt32} {d : Nat} (h : readI l = some (code, d)) : putI code d = l ∧ rightB code.length d = true ∧ l.length = 12 + 4 * code.length := by
  unfold readI at h
  split at h
  · cases h
  split at h
  · cases h
  split at h
  · cases h
  rename_i h1 h2 h3
  have hl8 : ((l.drop 4).take 8).length = 4 * 2 := by rw [List.length_take, List.length_drop]; omega
  have hle := le_words _ 2 hl8
  generalize hq : wordsL ((l.drop 4).take 8) = q at h hle
  match q, h, hle with
  | [nw, dw], h, hle =>
    dsimp only at h
    split at h
    · cases h
    split at h
    · cases h
    rename_i h4 h5
    have h5' : l.length = 12 + 4 * nw.toNat := Decidable.of_not_not h5
    injection h with h
    obtain ⟨hc, hd⟩ := Prod.mk.inj h
    have hn : code.length = nw.toNat := by rw [← hc]; exact wordsL_length _ _ (by rw [List.length_drop]; omega)
    have hcode := le_words (l.drop 12) nw.toNat (by rw [List.length_drop]; omega)
    rw [hc] at hcode
    refine ⟨?_, ?_, by omega⟩
    · unfold putI
      have e1 : UInt32.ofNat code.length = nw := by rw [hn]; exact UInt32.ofNat_toNat
      have e2 : UInt32.ofNat (d : Int).toNat = dw := by rw [← hd]; exact UInt32.ofNat_toNat
      rw [e1, e2, hle, hcode, ← Decidable.of_not_not h2]
      have e3 : l.drop 12 = (l.drop 4).drop 8 := by rw [List.drop_drop]
      rw [e3, List.append_assoc, List.take_append_drop, List.take_append_drop]
    · unfold rightB
      exact decide_eq_true ⟨by omega, by omega, by omega⟩

theorem put_length (code : List UInt32) (d : Int) : (putI code d).length = 12 + 4 * code.length := by
  unfold putI
  rw [List.length_append, List.length_append, leBytes_length, leBytes_length]
  simp

/-- What is put is read. -/
theorem put_read {code : List UInt32} {d : Int} (h : rightB code.length d = true) : readI (putI code d) = some (code, d.toNat) := by
  obtain ⟨h1, h2, h3⟩ := of_decide_eq_true h
  have hl := put_length code d
  have eN : (UInt32.ofNat code.length).toNat = code.length := by rw [UInt32.toNat_ofNat']; omega
  have eD : (UInt32.ofNat d.toNat).toNat = d.toNat := by rw [UInt32.toNat_ofNat']; omega
  have t4 : (putI code d).take 4 = [83, 69, 69, 68] := by unfold putI; rfl
  have t8 : ((putI code d).drop 4).take 8 = leBytes [UInt32.ofNat code.length, UInt32.ofNat d.toNat] := by
    unfold putI
    rw [List.append_assoc, List.drop_append_of_le_length (by simp)]
    simp only [List.drop_succ_cons, List.nil_append, List.drop_nil]
    exact List.take_left' (by rw [leBytes_length]; rfl)
  have t12 : (putI code d).drop 12 = leBytes code := by
    unfold putI
    exact List.drop_left' (by rw [List.length_append, leBytes_length]; rfl)
  unfold readI
  rw [if_neg (by omega), if_neg (by rw [t4]; simp), if_neg (by omega), t8, words_le, t12, words_le]
  dsimp only
  rw [eN, eD, if_neg (by omega), if_neg (by omega)]

theorem put_head (code : List UInt32) (d : Int) : ((putI code d).drop 4).take 8 = leBytes [UInt32.ofNat code.length, UInt32.ofNat d.toNat] := by
  unfold putI
  rw [List.append_assoc, List.drop_append_of_le_length (by simp)]
  simp only [List.drop_succ_cons, List.nil_append, List.drop_nil]
  exact List.take_left' (by rw [leBytes_length]; rfl)
theorem put_inj {xs ys : List UInt32} {d1 d2 : Int} (h1 : rightB xs.length d1 = true) (h2 : rightB ys.length d2 = true) (h : putI xs d1 = putI ys d2) : xs = ys ∧ d1 = d2 := by
  have e1 := put_read h1
  rw [h, put_read h2] at e1
  injection e1 with e1
  obtain ⟨ea, eb⟩ := Prod.mk.inj e1
  have a := of_decide_eq_true h1
  have b := of_decide_eq_true h2
  exact ⟨ea.symm, by omega⟩
theorem put_prefix {xs ys : List UInt32} {d1 d2 : Int} (h1 : rightB xs.length d1 = true) (h2 : rightB ys.length d2 = true) (h : (putI ys d2).take (putI xs d1).length = putI xs d1) : xs = ys ∧ d1 = d2 := by
  have a := of_decide_eq_true h1
  have b := of_decide_eq_true h2
  have hl := put_length xs d1
  have e := put_head xs d1
  rw [← h, List.drop_take, List.take_take, Nat.min_eq_left (by omega), put_head] at e
  have e2 := congrArg wordsL e
  rw [words_le, words_le] at e2
  injection e2 with e3 _
  have e4 := congrArg UInt32.toNat e3
  rw [UInt32.toNat_ofNat', UInt32.toNat_ofNat'] at e4
  have e5 : ys.length = xs.length := by omega
  rw [List.take_of_length_le (by rw [put_length, put_length]; omega)] at h
  exact put_inj h1 h2 h.symm
end Go.Proofs.YthfdjfgmgoafnaaDoor
