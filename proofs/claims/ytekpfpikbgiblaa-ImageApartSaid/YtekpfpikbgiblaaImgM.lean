/- Layer 8, plain: what is cut, added, or longer is no image; lengths and parts. -/
import Derived.Test.YtekpfpikbgiblaaImgL
import Derived.Test.YtekpfpikbgiblaaImgS
namespace Go.Proofs.Ytekpfpikbgiblaa

theorem put_more {code : List UInt32} {d : Int} (hr : rightB code.length d = true) (more : List UInt8) (hm : 0 < more.length) : readI (putI code d ++ more) = none := by
  cases h : readI (putI code d ++ more) with
  | none => rfl
  | some cd =>
    obtain ⟨c', d'⟩ := cd
    obtain ⟨e, r, l⟩ := read_put h
    have h2 := put_prefix hr r (by rw [e]; exact List.take_left' rfl)
    have h3 := congrArg List.length e
    rw [List.length_append, put_length, put_length, h2.1] at h3
    omega
theorem put_cut {code : List UInt32} {d : Int} (hr : rightB code.length d = true) (k : Nat) (hk : k < 12 + 4 * code.length) : readI ((putI code d).take k) = none := by
  cases h : readI ((putI code d).take k) with
  | none => rfl
  | some cd =>
    obtain ⟨c', d'⟩ := cd
    obtain ⟨e, r, l⟩ := read_put h
    have h4 := put_length code d
    have h5 : (putI c' d').length = k := by rw [e, List.length_take]; omega
    have h2 := put_prefix r hr (by rw [h5, e])
    rw [put_length, h2.1] at h5
    omega
theorem put_eq {xs ys : List UInt32} {d1 d2 : Int} (h1 : rightB xs.length d1 = true) (h2 : rightB ys.length d2 = true) : (putI xs d1 = putI ys d2) ↔ sameB xs ys d1 d2 = true := by
  constructor
  · intro h
    obtain ⟨a, b⟩ := put_inj h1 h2 h
    exact decide_eq_true ⟨b, a⟩
  · intro h
    obtain ⟨a, b⟩ := of_decide_eq_true h
    rw [a, b]
theorem put_drop8 (code : List UInt32) (d : Int) : (putI code d).drop 8 = le4 (UInt32.ofNat d.toNat) ++ leBytes code := by
  unfold putI
  simp only [leBytes, List.flatMap_cons, List.flatMap_nil, List.append_nil]
  rfl
theorem put_take4 (code : List UInt32) (d : Int) : (putI code d).take 4 = [83, 69, 69, 68] := by unfold putI; rfl
theorem put_behind (xs ys : List UInt32) (d : Int) : ((putI (xs ++ ys) d).drop 8).take (4 + 4 * xs.length) = (putI xs d).drop 8 := by
  rw [put_drop8, put_drop8]
  have : leBytes (xs ++ ys) = leBytes xs ++ leBytes ys := by unfold leBytes; rw [List.flatMap_append]
  rw [this, ← List.append_assoc]
  refine List.take_left' ?_
  rw [List.length_append, leBytes_length]
  rfl
/-- A call of a Go function under a guard, as 'go_region_law' leaves it. -/
theorem step_callg {P : Program} {ops : Array Oper} {o : Oper} {a : Act} {K : Act → World → Prop} {Q : Exit → Act → World → Prop} {X : Prop} {W : World} (hgd : Region.wanted o (yielded ops a.tmps) = true)
    (f : FuncId) (args : Array Value) (R : Ending → World → Prop) (hr : (execOp a.eval o).run P W = .ok (.enter f args) W) (hc : Calls P f args W R)
    (h : ∀ e w', R e w' → ∃ v, e = .returned v ∧ K (a.put o.dst v) w') :
    if Region.wanted o (yielded ops a.tmps) = true then Oper.wp P o a W K Q else X := by
  rw [if_pos hgd]
  unfold Oper.wp
  rw [hr, Oper.upon_enter]
  refine hc.mono ?_
  intro e w' hR
  obtain ⟨v, rfl, hk⟩ := h e w' hR
  exact hk
end Go.Proofs.Ytekpfpikbgiblaa
