/- Layer 50, plain: the seed's machine, step by step, and what it makes of a text. No program in sight. -/
import Derived.Test.YthfdjfgmgoafnaaDoorHxL
import Derived.Test.YthfdjfgmgoafnaaDoorPw
namespace Go.Proofs.YthfdjfgmgoafnaaDoor
open Go.RowKit

/-- A state of the machine: the place, the registers, how many bytes were read, what was put out, the steps, the end. -/
structure Ms where
  pc : Nat
  reg : Nat → UInt32
  rd : Nat
  out : List UInt8
  st : Nat
  fin : Nat
def updR (r : Nat → UInt32) (a : Nat) (x : UInt32) : Nat → UInt32 := fun i => if i = a then x else r i
/-- An instruction done. -/
def doI (inp : List UInt8) (op a b c : Nat) (s : Ms) : Ms :=
  if op = 1 then ⟨s.pc + 1, updR s.reg a (UInt32.ofNat c), s.rd, s.out, s.st + 1, 0⟩
  else if op = 18 then ⟨c, s.reg, s.rd, s.out, s.st + 1, 0⟩
  else if op = 19 then ⟨if s.reg a = 0 then c else s.pc + 1, s.reg, s.rd, s.out, s.st + 1, 0⟩
  else if op = 20 then ⟨if s.reg a = 0 then s.pc + 1 else c, s.reg, s.rd, s.out, s.st + 1, 0⟩
  else if op = 23 then (match inp[s.rd]? with
    | none => ⟨s.pc + 1, updR s.reg a 256, s.rd, s.out, s.st + 1, 0⟩
    | some x => ⟨s.pc + 1, updR s.reg a (UInt32.ofNat x.toNat), s.rd + 1, s.out, s.st + 1, 0⟩)
  else if op = 24 then ⟨s.pc + 1, s.reg, s.rd, s.out ++ [UInt8.ofNat (s.reg a).toNat], s.st + 1, 0⟩
  else if op = 26 then ⟨s.pc, s.reg, s.rd, s.out, s.st + 1, 1⟩
  else ⟨s.pc + 1, updR s.reg a (applyW op (s.reg b) (s.reg c)).1, s.rd, s.out, s.st + 1, 0⟩
/-- The seed's instructions. -/
def seedP : List (Nat × Nat × Nat × Nat) :=
  [(1, 4, 0, 4), (1, 5, 0, 48), (1, 6, 0, 10), (1, 7, 0, 35), (1, 8, 0, 256), (1, 9, 0, 97), (1, 11, 0, 6), (1, 12, 0, 32), (1, 10, 0, 1), (23, 1, 0, 0),
   (15, 3, 1, 8), (20, 3, 0, 33), (15, 3, 1, 7), (20, 3, 0, 28), (5, 2, 1, 5), (14, 3, 2, 6), (20, 3, 0, 22), (10, 1, 1, 12), (5, 2, 1, 9), (14, 3, 2, 11),
   (19, 3, 0, 9), (4, 2, 2, 6), (12, 10, 10, 4), (10, 10, 10, 2), (14, 3, 10, 8), (20, 3, 0, 9), (24, 10, 0, 0), (18, 0, 0, 8), (23, 1, 0, 0), (15, 3, 1, 6),
   (20, 3, 0, 9), (14, 3, 1, 8), (20, 3, 0, 28), (26, 0, 0, 0)]
def stp (inp : List UInt8) (s : Ms) : Ms :=
  match seedP[s.pc]? with
  | some (op, a, b, c) => doI inp op a b c s
  | none => s
def itr (inp : List UInt8) : Nat → Ms → Ms
  | 0, s => s
  | k + 1, s => if s.fin = 0 then itr inp k (stp inp s) else s
def s0 : Ms := ⟨0, fun _ => 0, 0, [], 0, 0⟩

theorem itr_succ {inp : List UInt8} {s : Ms} (k : Nat) (h : s.fin = 0) : itr inp (k + 1) s = itr inp k (stp inp s) := by rw [itr, if_pos h]
theorem itr_fin {inp : List UInt8} {s : Ms} (k : Nat) (h : s.fin ≠ 0) : itr inp k s = s := by
  cases k with
  | zero => rfl
  | succ k => rw [itr, if_neg h]
theorem itr_snoc (inp : List UInt8) (k : Nat) (s : Ms) : itr inp (k + 1) s = if (itr inp k s).fin = 0 then stp inp (itr inp k s) else itr inp k s := by
  induction k generalizing s with
  | zero =>
    show (if s.fin = 0 then itr inp 0 (stp inp s) else s) = _
    rfl
  | succ k ih =>
    by_cases h : s.fin = 0
    · rw [itr_succ (k + 1) h, ih, itr_succ k h]
    · rw [itr_fin _ h, itr_fin _ h, if_neg h]

theorem seedP_pcs : ∀ k, k < 34 → ∃ q, seedP[k]? = some q := by
  intro k h
  exact ⟨seedP[k]'h, List.getElem?_eq_getElem h⟩
/-- The instruction is well formed: its registers, its target. -/
def okI (k : Nat) : Bool := match seedP[k]? with
  | some (op, a, b, c) => decide (a < 16) && decide (b < 16) && decide (c < 65536) && (decide (op = 1) || decide (op = 23) || decide (op = 24) || decide (op = 26) || (decide (op = 18 ∨ op = 19 ∨ op = 20) && decide (c < 34)) || (decide (c < 16) && (decide (op = 4) || decide (op = 5) || decide (op = 10) || decide (op = 12) || decide (op = 14) || decide (op = 15)))) && (decide (op = 26) || decide (k < 33))
  | none => false
theorem okI_all : ∀ k, k < 34 → okI k = true := by decide
theorem doI_pc {inp : List UInt8} {op a b c : Nat} {s : Ms} (h : (op = 18 ∨ op = 19 ∨ op = 20) → c < 34) (h2 : op = 26 ∨ s.pc < 33) (h3 : s.pc < 34) : (doI inp op a b c s).pc < 34 := by
  unfold doI
  repeat' split
  all_goals (first | exact h3 | (show _ + 1 < 34; omega) | (show c < 34; exact h (by omega)) | skip)
  all_goals (show (if _ then _ else _) < 34; split <;> first | exact h (by omega) | omega)
theorem stp_pc {inp : List UInt8} {s : Ms} (h : s.pc < 34) : (stp inp s).pc < 34 := by
  have hk := okI_all s.pc h
  obtain ⟨⟨op, a, b, c⟩, hq⟩ := seedP_pcs s.pc h
  unfold okI at hk
  unfold stp
  rw [hq] at hk ⊢
  simp only [Bool.and_eq_true, Bool.or_eq_true, decide_eq_true_eq] at hk
  exact doI_pc (fun h => by omega) (by omega) h
theorem itr_pc (inp : List UInt8) (k : Nat) : (itr inp k s0).pc < 34 := by
  induction k with
  | zero => show 0 < 34; decide
  | succ k ih =>
    rw [itr_snoc]
    split
    · exact stp_pc ih
    · exact ih
theorem doI_out {inp : List UInt8} {op a b c : Nat} {s : Ms} : s.out.length ≤ (doI inp op a b c s).out.length ∧ (op = 24 → (doI inp op a b c s).out.length = s.out.length + 1) := by
  unfold doI
  repeat' split
  all_goals (first | exact ⟨Nat.le_refl _, fun h => by omega⟩ | skip)
  all_goals (constructor; (show s.out.length ≤ (s.out ++ [_]).length; simp); (intro _; show (s.out ++ [_]).length = _; simp))
theorem stp_out {inp : List UInt8} {s : Ms} : s.out.length ≤ (stp inp s).out.length := by
  unfold stp
  split
  · exact doI_out.1
  · exact Nat.le_refl _
theorem itr_out (inp : List UInt8) (k : Nat) (d : Nat) (s : Ms) : (itr inp k s).out.length ≤ (itr inp (k + d) s).out.length := by
  induction d with
  | zero => exact Nat.le_refl _
  | succ d ih =>
    refine Nat.le_trans ih ?_
    rw [← Nat.add_assoc, itr_snoc]
    split
    · exact stp_out
    · exact Nat.le_refl _

/-! What the words that the seed works on come to. -/
def wd (c : Nat) : UInt32 := UInt32.ofNat c
theorem q_end : ∀ c, c < 256 → (applyW 15 (wd c) 256).1 = 0 ∧ (applyW 14 (wd c) 256).1 = 1 := by decide +kernel
theorem q_hash : ∀ c, c < 256 → (applyW 15 (wd c) 35).1 = if c = 35 then 1 else 0 := by decide +kernel
theorem q_lf : ∀ c, c < 256 → (applyW 15 (wd c) 10).1 = if c = 10 then 1 else 0 := by decide +kernel
theorem q_dig : ∀ c, c < 256 → (applyW 14 (applyW 5 (wd c) 48).1 10).1 = if 48 ≤ c ∧ c ≤ 57 then 1 else 0 := by decide +kernel
theorem q_digv : ∀ c, c < 256 → 48 ≤ c ∧ c ≤ 57 → (applyW 5 (wd c) 48).1 = wd (c - 48) := by decide +kernel
theorem q_let : ∀ c, c < 256 → (applyW 14 (applyW 5 (applyW 10 (wd c) 32).1 97).1 6).1 = if 97 ≤ c ∧ c ≤ 102 ∨ 65 ≤ c ∧ c ≤ 70 then 1 else 0 := by decide +kernel
theorem q_letv : ∀ c, c < 256 → 97 ≤ c ∧ c ≤ 102 → (applyW 4 (applyW 5 (applyW 10 (wd c) 32).1 97).1 10).1 = wd (c - 87) := by decide +kernel
theorem q_letw : ∀ c, c < 256 → 65 ≤ c ∧ c ≤ 70 → (applyW 4 (applyW 5 (applyW 10 (wd c) 32).1 97).1 10).1 = wd (c - 55) := by decide +kernel
theorem q_fst : ∀ d, d < 16 → (applyW 10 (applyW 12 1 4).1 (wd d)).1 = wd (16 + d) ∧ (applyW 14 (wd (16 + d)) 256).1 = 1 := by decide +kernel
theorem q_snd : ∀ h, h < 16 → ∀ d, d < 16 → (applyW 10 (applyW 12 (wd (16 + h)) 4).1 (wd d)).1 = wd (256 + h * 16 + d) ∧ (applyW 14 (wd (256 + h * 16 + d)) 256).1 = 0 ∧ UInt8.ofNat (wd (256 + h * 16 + d)).toNat = UInt8.ofNat (h * 16 + d) := by decide +kernel

/-- The registers that stay. -/
structure Fx (r : Nat → UInt32) : Prop where
  r4 : r 4 = 4
  r5 : r 5 = 48
  r6 : r 6 = 10
  r7 : r 7 = 35
  r8 : r 8 = 256
  r9 : r 9 = 97
  r11 : r 11 = 6
  r12 : r 12 = 32
theorem Fx.upd {r : Nat → UInt32} (h : Fx r) {a : Nat} (ha : a = 1 ∨ a = 2 ∨ a = 3 ∨ a = 10) (x : UInt32) : Fx (updR r a x) := by
  have e : ∀ i, i ≠ 1 → i ≠ 2 → i ≠ 3 → i ≠ 10 → updR r a x i = r i := by intro i h1 h2 h3 h4; unfold updR; rw [if_neg (by omega)]
  exact ⟨by rw [e _ (by decide) (by decide) (by decide) (by decide)]; exact h.r4, by rw [e _ (by decide) (by decide) (by decide) (by decide)]; exact h.r5, by rw [e _ (by decide) (by decide) (by decide) (by decide)]; exact h.r6, by rw [e _ (by decide) (by decide) (by decide) (by decide)]; exact h.r7, by rw [e _ (by decide) (by decide) (by decide) (by decide)]; exact h.r8, by rw [e _ (by decide) (by decide) (by decide) (by decide)]; exact h.r9, by rw [e _ (by decide) (by decide) (by decide) (by decide)]; exact h.r11, by rw [e _ (by decide) (by decide) (by decide) (by decide)]; exact h.r12⟩
theorem upd_eq (r : Nat → UInt32) (a : Nat) (x : UInt32) : updR r a x a = x := by unfold updR; rw [if_pos rfl]
theorem upd_ne (r : Nat → UInt32) {a i : Nat} (h : i ≠ a) (x : UInt32) : updR r a x i = r i := by unfold updR; rw [if_neg h]

/-- A state goes over into another one, in at most so many steps. -/
def Goes (inp : List UInt8) (n : Nat) (s t : Ms) : Prop := ∃ m, m ≤ n ∧ ∀ k, itr inp (m + k) s = itr inp k t
theorem Goes.refl (inp : List UInt8) (n : Nat) (s : Ms) : Goes inp n s s := ⟨0, Nat.zero_le _, fun k => by rw [Nat.zero_add]⟩
theorem Goes.step {inp : List UInt8} {n : Nat} {s t u : Ms} (h : s.fin = 0) (e : stp inp s = t) (g : Goes inp n t u) : Goes inp (n + 1) s u := by
  obtain ⟨m, hm, hk⟩ := g
  refine ⟨m + 1, by omega, fun k => ?_⟩
  rw [show m + 1 + k = (m + k) + 1 by omega, itr_succ _ h, e, hk]
theorem Goes.mono {inp : List UInt8} {n m : Nat} {s t : Ms} (g : Goes inp n s t) (h : n ≤ m) : Goes inp m s t := by
  obtain ⟨k, hk, g⟩ := g
  exact ⟨k, by omega, g⟩
theorem Goes.trans {inp : List UInt8} {n m : Nat} {s t u : Ms} (g : Goes inp n s t) (h : Goes inp m t u) : Goes inp (n + m) s u := by
  obtain ⟨a, ha, ga⟩ := g
  obtain ⟨b, hb, gb⟩ := h
  exact ⟨a + b, by omega, fun k => by rw [Nat.add_assoc, ga, gb]⟩

section
variable {inp : List UInt8} {r : Nat → UInt32} {k t : Nat} {o : List UInt8}
theorem p_get {p : Nat} (hp : p = 9 ∨ p = 28) {c : UInt8} (h : inp[k]? = some c) : stp inp ⟨p, r, k, o, t, 0⟩ = ⟨p + 1, updR r 1 (wd c.toNat), k + 1, o, t + 1, 0⟩ := by
  rcases hp with rfl | rfl
  · show (match inp[k]? with | none => _ | some x => _) = _
    rw [h]; rfl
  · show (match inp[k]? with | none => _ | some x => _) = _
    rw [h]; rfl
theorem p_eof {p : Nat} (hp : p = 9 ∨ p = 28) (h : inp[k]? = none) : stp inp ⟨p, r, k, o, t, 0⟩ = ⟨p + 1, updR r 1 256, k, o, t + 1, 0⟩ := by
  rcases hp with rfl | rfl
  · show (match inp[k]? with | none => _ | some x => _) = _
    rw [h]
  · show (match inp[k]? with | none => _ | some x => _) = _
    rw [h]
end
/-- How the seed stands, for how a loader stands: at 9, or in a note at 28. -/
def Stands (L : Ls) (k : Nat) (s : Ms) : Prop :=
  s.pc = (if L.note = true then 28 else 9) ∧ Fx s.reg ∧ s.rd = k ∧ s.out = L.out ∧ s.fin = 0 ∧ -1 ≤ L.high ∧ L.high < 16 ∧ s.reg 10 = (if L.high < 0 then 1 else wd (16 + L.high.toNat))

/-! The rules, printed by sdm.py. -/
structure Rg (r : Nat → UInt32) (x1 x2 x3 xb : UInt32) : Prop extends Fx r where
  r1 : r 1 = x1
  r2 : r 2 = x2
  r3 : r 3 = x3
  rb : r 10 = xb
def To (inp : List UInt8) (n : Nat) (s : Ms) (Q : Ms → Prop) : Prop := ∃ s', Goes inp n s s' ∧ Q s'
theorem To.done {inp : List UInt8} {n : Nat} {s : Ms} {Q : Ms → Prop} (h : Q s) : To inp n s Q := ⟨s, Goes.refl _ _ _, h⟩
theorem To.step {inp : List UInt8} {n : Nat} {s t : Ms} {Q : Ms → Prop} (h : s.fin = 0) (e : stp inp s = t) (g : To inp n t Q) : To inp (n + 1) s Q := by
  obtain ⟨s', g1, g2⟩ := g
  exact ⟨s', Goes.step h e g1, g2⟩
section
variable {inp : List UInt8} {n : Nat} {r : Nat → UInt32} {x1 x2 x3 xb : UInt32} {k t : Nat} {o : List UInt8} {Q : Ms → Prop}
theorem Rg.u1 (h : Rg r x1 x2 x3 xb) (y : UInt32) : Rg (updR r 1 y) y x2 x3 xb := ⟨h.toFx.upd (by decide) y, upd_eq _ _ _, (upd_ne _ (by decide) _).trans h.r2, (upd_ne _ (by decide) _).trans h.r3, (upd_ne _ (by decide) _).trans h.rb⟩
theorem Rg.u2 (h : Rg r x1 x2 x3 xb) (y : UInt32) : Rg (updR r 2 y) x1 y x3 xb := ⟨h.toFx.upd (by decide) y, (upd_ne _ (by decide) _).trans h.r1, upd_eq _ _ _, (upd_ne _ (by decide) _).trans h.r3, (upd_ne _ (by decide) _).trans h.rb⟩
theorem Rg.u3 (h : Rg r x1 x2 x3 xb) (y : UInt32) : Rg (updR r 3 y) x1 x2 y xb := ⟨h.toFx.upd (by decide) y, (upd_ne _ (by decide) _).trans h.r1, (upd_ne _ (by decide) _).trans h.r2, upd_eq _ _ _, (upd_ne _ (by decide) _).trans h.rb⟩
theorem Rg.ub (h : Rg r x1 x2 x3 xb) (y : UInt32) : Rg (updR r 10 y) x1 x2 x3 y := ⟨h.toFx.upd (by decide) y, (upd_ne _ (by decide) _).trans h.r1, (upd_ne _ (by decide) _).trans h.r2, (upd_ne _ (by decide) _).trans h.r3, upd_eq _ _ _⟩
theorem t8 (h : Rg r x1 x2 x3 xb) (g : ∀ r', Rg r' x1 x2 x3 1 → To inp n ⟨9, r', k, o, t + 1, 0⟩ Q) : To inp (n + 1) ⟨8, r, k, o, t, 0⟩ Q :=
  To.step rfl rfl (g _ (h.ub 1))
theorem t9 {c : UInt8} (hc : inp[k]? = some c) (h : Rg r x1 x2 x3 xb) (g : ∀ r', Rg r' (wd c.toNat) x2 x3 xb → To inp n ⟨10, r', k + 1, o, t + 1, 0⟩ Q) : To inp (n + 1) ⟨9, r, k, o, t, 0⟩ Q :=
  To.step rfl (p_get (by decide) hc) (g _ (h.u1 _))
theorem e9 (hc : inp[k]? = none) (h : Rg r x1 x2 x3 xb) (g : ∀ r', Rg r' 256 x2 x3 xb → To inp n ⟨10, r', k, o, t + 1, 0⟩ Q) : To inp (n + 1) ⟨9, r, k, o, t, 0⟩ Q :=
  To.step rfl (p_eof (by decide) hc) (g _ (h.u1 _))
theorem t10 (h : Rg r x1 x2 x3 xb) (g : ∀ r', Rg r' x1 x2 (applyW 15 x1 256).1 xb → To inp n ⟨11, r', k, o, t + 1, 0⟩ Q) : To inp (n + 1) ⟨10, r, k, o, t, 0⟩ Q := by
  refine To.step rfl ?_ (g _ (h.u3 (applyW 15 x1 256).1))
  show (⟨11, updR r 3 (applyW 15 (r 1) (r 8)).1, k, o, t + 1, 0⟩ : Ms) = _
  rw [h.r1, h.toFx.r8]
theorem t11 (h : Rg r x1 x2 x3 xb) (g0 : x3 = 0 → To inp n ⟨12, r, k, o, t + 1, 0⟩ Q) (g1 : x3 ≠ 0 → To inp n ⟨33, r, k, o, t + 1, 0⟩ Q) : To inp (n + 1) ⟨11, r, k, o, t, 0⟩ Q := by
  have e : stp inp ⟨11, r, k, o, t, 0⟩ = ⟨if r 3 = 0 then 12 else 33, r, k, o, t + 1, 0⟩ := rfl
  rw [h.r3] at e
  by_cases hx : x3 = 0
  · rw [if_pos hx] at e; exact To.step rfl e (g0 hx)
  · rw [if_neg hx] at e; exact To.step rfl e (g1 hx)
theorem t12 (h : Rg r x1 x2 x3 xb) (g : ∀ r', Rg r' x1 x2 (applyW 15 x1 35).1 xb → To inp n ⟨13, r', k, o, t + 1, 0⟩ Q) : To inp (n + 1) ⟨12, r, k, o, t, 0⟩ Q := by
  refine To.step rfl ?_ (g _ (h.u3 (applyW 15 x1 35).1))
  show (⟨13, updR r 3 (applyW 15 (r 1) (r 7)).1, k, o, t + 1, 0⟩ : Ms) = _
  rw [h.r1, h.toFx.r7]
theorem t13 (h : Rg r x1 x2 x3 xb) (g0 : x3 = 0 → To inp n ⟨14, r, k, o, t + 1, 0⟩ Q) (g1 : x3 ≠ 0 → To inp n ⟨28, r, k, o, t + 1, 0⟩ Q) : To inp (n + 1) ⟨13, r, k, o, t, 0⟩ Q := by
  have e : stp inp ⟨13, r, k, o, t, 0⟩ = ⟨if r 3 = 0 then 14 else 28, r, k, o, t + 1, 0⟩ := rfl
  rw [h.r3] at e
  by_cases hx : x3 = 0
  · rw [if_pos hx] at e; exact To.step rfl e (g0 hx)
  · rw [if_neg hx] at e; exact To.step rfl e (g1 hx)
theorem t14 (h : Rg r x1 x2 x3 xb) (g : ∀ r', Rg r' x1 (applyW 5 x1 48).1 x3 xb → To inp n ⟨15, r', k, o, t + 1, 0⟩ Q) : To inp (n + 1) ⟨14, r, k, o, t, 0⟩ Q := by
  refine To.step rfl ?_ (g _ (h.u2 (applyW 5 x1 48).1))
  show (⟨15, updR r 2 (applyW 5 (r 1) (r 5)).1, k, o, t + 1, 0⟩ : Ms) = _
  rw [h.r1, h.toFx.r5]
theorem t15 (h : Rg r x1 x2 x3 xb) (g : ∀ r', Rg r' x1 x2 (applyW 14 x2 10).1 xb → To inp n ⟨16, r', k, o, t + 1, 0⟩ Q) : To inp (n + 1) ⟨15, r, k, o, t, 0⟩ Q := by
  refine To.step rfl ?_ (g _ (h.u3 (applyW 14 x2 10).1))
  show (⟨16, updR r 3 (applyW 14 (r 2) (r 6)).1, k, o, t + 1, 0⟩ : Ms) = _
  rw [h.r2, h.toFx.r6]
theorem t16 (h : Rg r x1 x2 x3 xb) (g0 : x3 = 0 → To inp n ⟨17, r, k, o, t + 1, 0⟩ Q) (g1 : x3 ≠ 0 → To inp n ⟨22, r, k, o, t + 1, 0⟩ Q) : To inp (n + 1) ⟨16, r, k, o, t, 0⟩ Q := by
  have e : stp inp ⟨16, r, k, o, t, 0⟩ = ⟨if r 3 = 0 then 17 else 22, r, k, o, t + 1, 0⟩ := rfl
  rw [h.r3] at e
  by_cases hx : x3 = 0
  · rw [if_pos hx] at e; exact To.step rfl e (g0 hx)
  · rw [if_neg hx] at e; exact To.step rfl e (g1 hx)
theorem t17 (h : Rg r x1 x2 x3 xb) (g : ∀ r', Rg r' (applyW 10 x1 32).1 x2 x3 xb → To inp n ⟨18, r', k, o, t + 1, 0⟩ Q) : To inp (n + 1) ⟨17, r, k, o, t, 0⟩ Q := by
  refine To.step rfl ?_ (g _ (h.u1 (applyW 10 x1 32).1))
  show (⟨18, updR r 1 (applyW 10 (r 1) (r 12)).1, k, o, t + 1, 0⟩ : Ms) = _
  rw [h.r1, h.toFx.r12]
theorem t18 (h : Rg r x1 x2 x3 xb) (g : ∀ r', Rg r' x1 (applyW 5 x1 97).1 x3 xb → To inp n ⟨19, r', k, o, t + 1, 0⟩ Q) : To inp (n + 1) ⟨18, r, k, o, t, 0⟩ Q := by
  refine To.step rfl ?_ (g _ (h.u2 (applyW 5 x1 97).1))
  show (⟨19, updR r 2 (applyW 5 (r 1) (r 9)).1, k, o, t + 1, 0⟩ : Ms) = _
  rw [h.r1, h.toFx.r9]
theorem t19 (h : Rg r x1 x2 x3 xb) (g : ∀ r', Rg r' x1 x2 (applyW 14 x2 6).1 xb → To inp n ⟨20, r', k, o, t + 1, 0⟩ Q) : To inp (n + 1) ⟨19, r, k, o, t, 0⟩ Q := by
  refine To.step rfl ?_ (g _ (h.u3 (applyW 14 x2 6).1))
  show (⟨20, updR r 3 (applyW 14 (r 2) (r 11)).1, k, o, t + 1, 0⟩ : Ms) = _
  rw [h.r2, h.toFx.r11]
theorem t20 (h : Rg r x1 x2 x3 xb) (g0 : x3 = 0 → To inp n ⟨9, r, k, o, t + 1, 0⟩ Q) (g1 : x3 ≠ 0 → To inp n ⟨21, r, k, o, t + 1, 0⟩ Q) : To inp (n + 1) ⟨20, r, k, o, t, 0⟩ Q := by
  have e : stp inp ⟨20, r, k, o, t, 0⟩ = ⟨if r 3 = 0 then 9 else 21, r, k, o, t + 1, 0⟩ := rfl
  rw [h.r3] at e
  by_cases hx : x3 = 0
  · rw [if_pos hx] at e; exact To.step rfl e (g0 hx)
  · rw [if_neg hx] at e; exact To.step rfl e (g1 hx)
theorem t21 (h : Rg r x1 x2 x3 xb) (g : ∀ r', Rg r' x1 (applyW 4 x2 10).1 x3 xb → To inp n ⟨22, r', k, o, t + 1, 0⟩ Q) : To inp (n + 1) ⟨21, r, k, o, t, 0⟩ Q := by
  refine To.step rfl ?_ (g _ (h.u2 (applyW 4 x2 10).1))
  show (⟨22, updR r 2 (applyW 4 (r 2) (r 6)).1, k, o, t + 1, 0⟩ : Ms) = _
  rw [h.r2, h.toFx.r6]
theorem t22 (h : Rg r x1 x2 x3 xb) (g : ∀ r', Rg r' x1 x2 x3 (applyW 12 xb 4).1 → To inp n ⟨23, r', k, o, t + 1, 0⟩ Q) : To inp (n + 1) ⟨22, r, k, o, t, 0⟩ Q := by
  refine To.step rfl ?_ (g _ (h.ub (applyW 12 xb 4).1))
  show (⟨23, updR r 10 (applyW 12 (r 10) (r 4)).1, k, o, t + 1, 0⟩ : Ms) = _
  rw [h.rb, h.toFx.r4]
theorem t23 (h : Rg r x1 x2 x3 xb) (g : ∀ r', Rg r' x1 x2 x3 (applyW 10 xb x2).1 → To inp n ⟨24, r', k, o, t + 1, 0⟩ Q) : To inp (n + 1) ⟨23, r, k, o, t, 0⟩ Q := by
  refine To.step rfl ?_ (g _ (h.ub (applyW 10 xb x2).1))
  show (⟨24, updR r 10 (applyW 10 (r 10) (r 2)).1, k, o, t + 1, 0⟩ : Ms) = _
  rw [h.rb, h.r2]
theorem t24 (h : Rg r x1 x2 x3 xb) (g : ∀ r', Rg r' x1 x2 (applyW 14 xb 256).1 xb → To inp n ⟨25, r', k, o, t + 1, 0⟩ Q) : To inp (n + 1) ⟨24, r, k, o, t, 0⟩ Q := by
  refine To.step rfl ?_ (g _ (h.u3 (applyW 14 xb 256).1))
  show (⟨25, updR r 3 (applyW 14 (r 10) (r 8)).1, k, o, t + 1, 0⟩ : Ms) = _
  rw [h.rb, h.toFx.r8]
theorem t25 (h : Rg r x1 x2 x3 xb) (g0 : x3 = 0 → To inp n ⟨26, r, k, o, t + 1, 0⟩ Q) (g1 : x3 ≠ 0 → To inp n ⟨9, r, k, o, t + 1, 0⟩ Q) : To inp (n + 1) ⟨25, r, k, o, t, 0⟩ Q := by
  have e : stp inp ⟨25, r, k, o, t, 0⟩ = ⟨if r 3 = 0 then 26 else 9, r, k, o, t + 1, 0⟩ := rfl
  rw [h.r3] at e
  by_cases hx : x3 = 0
  · rw [if_pos hx] at e; exact To.step rfl e (g0 hx)
  · rw [if_neg hx] at e; exact To.step rfl e (g1 hx)
theorem t26 (h : Rg r x1 x2 x3 xb) (g : To inp n ⟨27, r, k, o ++ [UInt8.ofNat xb.toNat], t + 1, 0⟩ Q) : To inp (n + 1) ⟨26, r, k, o, t, 0⟩ Q := by
  refine To.step rfl ?_ g
  show (⟨27, r, k, o ++ [UInt8.ofNat (r 10).toNat], t + 1, 0⟩ : Ms) = _
  rw [h.rb]
theorem t27 (g : To inp n ⟨8, r, k, o, t + 1, 0⟩ Q) : To inp (n + 1) ⟨27, r, k, o, t, 0⟩ Q := To.step rfl rfl g
theorem t28 {c : UInt8} (hc : inp[k]? = some c) (h : Rg r x1 x2 x3 xb) (g : ∀ r', Rg r' (wd c.toNat) x2 x3 xb → To inp n ⟨29, r', k + 1, o, t + 1, 0⟩ Q) : To inp (n + 1) ⟨28, r, k, o, t, 0⟩ Q :=
  To.step rfl (p_get (by decide) hc) (g _ (h.u1 _))
theorem e28 (hc : inp[k]? = none) (h : Rg r x1 x2 x3 xb) (g : ∀ r', Rg r' 256 x2 x3 xb → To inp n ⟨29, r', k, o, t + 1, 0⟩ Q) : To inp (n + 1) ⟨28, r, k, o, t, 0⟩ Q :=
  To.step rfl (p_eof (by decide) hc) (g _ (h.u1 _))
theorem t29 (h : Rg r x1 x2 x3 xb) (g : ∀ r', Rg r' x1 x2 (applyW 15 x1 10).1 xb → To inp n ⟨30, r', k, o, t + 1, 0⟩ Q) : To inp (n + 1) ⟨29, r, k, o, t, 0⟩ Q := by
  refine To.step rfl ?_ (g _ (h.u3 (applyW 15 x1 10).1))
  show (⟨30, updR r 3 (applyW 15 (r 1) (r 6)).1, k, o, t + 1, 0⟩ : Ms) = _
  rw [h.r1, h.toFx.r6]
theorem t30 (h : Rg r x1 x2 x3 xb) (g0 : x3 = 0 → To inp n ⟨31, r, k, o, t + 1, 0⟩ Q) (g1 : x3 ≠ 0 → To inp n ⟨9, r, k, o, t + 1, 0⟩ Q) : To inp (n + 1) ⟨30, r, k, o, t, 0⟩ Q := by
  have e : stp inp ⟨30, r, k, o, t, 0⟩ = ⟨if r 3 = 0 then 31 else 9, r, k, o, t + 1, 0⟩ := rfl
  rw [h.r3] at e
  by_cases hx : x3 = 0
  · rw [if_pos hx] at e; exact To.step rfl e (g0 hx)
  · rw [if_neg hx] at e; exact To.step rfl e (g1 hx)
theorem t31 (h : Rg r x1 x2 x3 xb) (g : ∀ r', Rg r' x1 x2 (applyW 14 x1 256).1 xb → To inp n ⟨32, r', k, o, t + 1, 0⟩ Q) : To inp (n + 1) ⟨31, r, k, o, t, 0⟩ Q := by
  refine To.step rfl ?_ (g _ (h.u3 (applyW 14 x1 256).1))
  show (⟨32, updR r 3 (applyW 14 (r 1) (r 8)).1, k, o, t + 1, 0⟩ : Ms) = _
  rw [h.r1, h.toFx.r8]
theorem t32 (h : Rg r x1 x2 x3 xb) (g0 : x3 = 0 → To inp n ⟨33, r, k, o, t + 1, 0⟩ Q) (g1 : x3 ≠ 0 → To inp n ⟨28, r, k, o, t + 1, 0⟩ Q) : To inp (n + 1) ⟨32, r, k, o, t, 0⟩ Q := by
  have e : stp inp ⟨32, r, k, o, t, 0⟩ = ⟨if r 3 = 0 then 33 else 28, r, k, o, t + 1, 0⟩ := rfl
  rw [h.r3] at e
  by_cases hx : x3 = 0
  · rw [if_pos hx] at e; exact To.step rfl e (g0 hx)
  · rw [if_neg hx] at e; exact To.step rfl e (g1 hx)
theorem t33 (g : Q ⟨33, r, k, o, t + 1, 1⟩) : To inp (n + 1) ⟨33, r, k, o, t, 0⟩ Q := To.step rfl rfl (To.done g)
end
theorem one_ne : (1 : UInt32) ≠ 0 := by decide
theorem rg_of {r : Nat → UInt32} (h : Fx r) : Rg r (r 1) (r 2) (r 3) (r 10) := ⟨h, rfl, rfl, rfl, rfl⟩
/-- A byte of a digit's worth, taken at 22. -/
theorem take_digit {inp : List UInt8} {L : Ls} {r : Nat → UInt32} {x1 x3 xb : UInt32} {k t d : Nat} (hd : d < 16) (hn : L.note = false) (h1 : -1 ≤ L.high) (h2 : L.high < 16) (hb : xb = (if L.high < 0 then 1 else wd (16 + L.high.toNat))) (h : Rg r x1 (wd d) x3 xb) :
    To inp 8 ⟨22, r, k, L.out, t, 0⟩ (Stands (if L.high < 0 then ⟨L.note, (d : Int), L.out⟩ else ⟨L.note, -1, L.out ++ [UInt8.ofNat (L.high.toNat * 16 + d)]⟩) k) := by
  by_cases hh : L.high < 0
  · rw [if_pos hh] at hb ⊢
    subst hb
    obtain ⟨q1, q2⟩ := q_fst d hd
    refine t22 h fun r h => ?_
    refine t23 h fun r h => ?_
    rw [q1] at h
    refine t24 h fun r h => ?_
    rw [q2] at h
    refine t25 h (fun e => absurd e one_ne) fun _ => ?_
    refine To.done ⟨by show 9 = _; rw [hn]; rfl, h.toFx, rfl, rfl, rfl, by show -1 ≤ (d : Int); omega, by show (d : Int) < 16; omega, ?_⟩
    show r 10 = _
    rw [h.rb, if_neg (by show ¬ (d : Int) < 0; omega)]
    rfl
  · rw [if_neg hh] at hb ⊢
    subst hb
    obtain ⟨H, hH⟩ : ∃ H : Nat, L.high = H := ⟨L.high.toNat, by omega⟩
    rw [hH] at h ⊢
    rw [Int.toNat_natCast] at h ⊢
    obtain ⟨q1, q2, q3⟩ := q_snd H (by omega) d hd
    refine t22 h fun r h => ?_
    refine t23 h fun r h => ?_
    rw [q1] at h
    refine t24 h fun r h => ?_
    rw [q2] at h
    refine t25 h (fun _ => ?_) (fun e => absurd rfl e)
    refine t26 h ?_
    rw [q3]
    refine t27 ?_
    refine t8 h fun r h => ?_
    refine To.done ⟨by show 9 = _; rw [hn]; rfl, h.toFx, rfl, rfl, rfl, by show (-1 : Int) ≤ -1; decide, by show (-1 : Int) < 16; decide, h.rb⟩

/-- A byte: the seed goes on as the loader does, in at most 21 steps. -/
theorem seed_byte {inp : List UInt8} {L : Ls} {k : Nat} {s : Ms} {c : UInt8} (hc : inp[k]? = some c) (h : Stands L k s) : To inp 21 s (Stands (lstep L c) (k + 1)) := by
  obtain ⟨hpc, hF, hrd, hout, hfin, h1, h2, hb⟩ := h
  obtain ⟨pc, r, rd, o, t, fin⟩ := s
  dsimp only at hpc hF hrd hout hfin hb
  subst hrd hout hfin hpc
  have hc256 := c.toNat_lt
  have hR := rg_of hF
  rw [hb] at hR
  clear hF
  obtain ⟨q1, q2⟩ := q_end c.toNat hc256
  have q3 := q_lf c.toNat hc256
  by_cases hn : L.note = true
  · rw [if_pos hn]
    refine t28 hc hR fun r h => ?_
    refine t29 h fun r h => ?_
    rw [q3] at h
    by_cases h10 : c.toNat = 10
    · rw [if_pos h10] at h
      refine t30 h (fun e => absurd e one_ne) fun _ => ?_
      refine To.done ⟨?_, h.toFx, rfl, ?_, rfl, ?_, ?_, ?_⟩
      all_goals unfold lstep; rw [if_pos h10]
      · rfl
      · exact h1
      · exact h2
      · exact h.rb
    · rw [if_neg h10] at h
      refine t30 h (fun _ => ?_) (fun e => absurd rfl e)
      refine t31 h fun r h => ?_
      rw [q2] at h
      refine t32 h (fun e => absurd e one_ne) fun _ => ?_
      have e : lstep L c = L := by unfold lstep; rw [if_neg h10, if_pos hn]
      rw [e]
      exact To.done ⟨by rw [if_pos hn], h.toFx, rfl, rfl, rfl, h1, h2, h.rb⟩
  · have hn' : L.note = false := by simpa using hn
    rw [if_neg hn]
    refine t9 hc hR fun r h => ?_
    refine t10 h fun r h => ?_
    rw [q1] at h
    refine t11 h (fun _ => ?_) (fun e => absurd rfl e)
    refine t12 h fun r h => ?_
    rw [q_hash c.toNat hc256] at h
    by_cases h35 : c.toNat = 35
    · rw [if_pos h35] at h
      refine t13 h (fun e => absurd e one_ne) fun _ => ?_
      have e : lstep L c = ⟨true, L.high, L.out⟩ := by unfold lstep; rw [if_neg (by omega), if_neg hn, if_pos h35]
      rw [e]
      exact To.done ⟨rfl, h.toFx, rfl, rfl, rfl, h1, h2, h.rb⟩
    · rw [if_neg h35] at h
      refine t13 h (fun _ => ?_) (fun e => absurd rfl e)
      refine t14 h fun r h => ?_
      refine t15 h fun r h => ?_
      rw [q_dig c.toNat hc256] at h
      by_cases hd : 48 ≤ c.toNat ∧ c.toNat ≤ 57
      · rw [if_pos hd, q_digv c.toNat hc256 hd] at h
        refine t16 h (fun e => absurd e one_ne) fun _ => ?_
        have ev : digV c = ((c.toNat - 48 : Nat) : Int) := by unfold digV; rw [if_pos hd]; omega
        have e : lstep L c = (if L.high < 0 then ⟨L.note, ((c.toNat - 48 : Nat) : Int), L.out⟩ else ⟨L.note, -1, L.out ++ [UInt8.ofNat (L.high.toNat * 16 + (c.toNat - 48))]⟩) := by
          unfold lstep; rw [if_neg (by omega), if_neg hn, if_neg h35, ev, if_neg (by omega), Int.toNat_natCast]
        rw [e]
        exact (take_digit (by omega) hn' h1 h2 rfl h : To inp 8 _ _).elim fun s' g => ⟨s', g.1.mono (by decide), g.2⟩
      · rw [if_neg hd] at h
        refine t16 h (fun _ => ?_) (fun e => absurd rfl e)
        refine t17 h fun r h => ?_
        refine t18 h fun r h => ?_
        refine t19 h fun r h => ?_
        rw [q_let c.toNat hc256] at h
        by_cases hl : 97 ≤ c.toNat ∧ c.toNat ≤ 102 ∨ 65 ≤ c.toNat ∧ c.toNat ≤ 70
        · rw [if_pos hl] at h
          refine t20 h (fun e => absurd e one_ne) fun _ => ?_
          refine t21 h fun r h => ?_
          obtain ⟨d, hd16, hdv, hdw⟩ : ∃ d : Nat, d < 16 ∧ digV c = (d : Int) ∧ (applyW 4 (applyW 5 (applyW 10 (wd c.toNat) 32).1 97).1 10).1 = wd d := by
            rcases hl with hl | hl
            · exact ⟨c.toNat - 87, by omega, by unfold digV; rw [if_neg hd, if_pos hl]; omega, q_letv c.toNat hc256 hl⟩
            · exact ⟨c.toNat - 55, by omega, by unfold digV; rw [if_neg hd, if_neg (by omega), if_pos hl]; omega, q_letw c.toNat hc256 hl⟩
          rw [hdw] at h
          have e : lstep L c = (if L.high < 0 then ⟨L.note, (d : Int), L.out⟩ else ⟨L.note, -1, L.out ++ [UInt8.ofNat (L.high.toNat * 16 + d)]⟩) := by
            unfold lstep; rw [if_neg (by omega), if_neg hn, if_neg h35, hdv, if_neg (by omega), Int.toNat_natCast]
          rw [e]
          exact (take_digit hd16 hn' h1 h2 rfl h : To inp 8 _ _)
        · rw [if_neg hl] at h
          refine t20 h (fun _ => ?_) (fun e => absurd rfl e)
          have ev : digV c = -1 := by unfold digV; rw [if_neg hd, if_neg (by omega), if_neg (by omega)]
          by_cases h10 : c.toNat = 10
          · have e : lstep L c = ⟨false, L.high, L.out⟩ := by unfold lstep; rw [if_pos h10]
            rw [e]
            exact To.done ⟨rfl, h.toFx, rfl, rfl, rfl, h1, h2, h.rb⟩
          · have e : lstep L c = L := by unfold lstep; rw [if_neg h10, if_neg hn, if_neg h35, ev, if_pos (by decide)]
            rw [e]
            exact To.done ⟨by rw [if_neg hn], h.toFx, rfl, rfl, rfl, h1, h2, h.rb⟩

theorem seed_bytes {inp : List UInt8} (k : Nat) (hk : k ≤ inp.length) : To inp (9 + 21 * k) s0 (Stands (loadS (inp.take k)) k) := by
  induction k with
  | zero =>
    refine To.step rfl rfl (To.step rfl rfl (To.step rfl rfl (To.step rfl rfl (To.step rfl rfl (To.step rfl rfl (To.step rfl rfl (To.step rfl rfl (To.step rfl rfl (To.done ⟨rfl, ⟨rfl, rfl, rfl, rfl, rfl, rfl, rfl, rfl⟩, rfl, rfl, rfl, by show (-1 : Int) ≤ -1; decide, by show (-1 : Int) < 16; decide, rfl⟩)))))))))
  | succ k ih =>
    obtain ⟨s1, g1, h1⟩ := ih (by omega)
    obtain ⟨s2, g2, h2⟩ := seed_byte (List.getElem?_eq_getElem (show k < inp.length by omega)) h1
    refine ⟨s2, (g1.trans g2).mono (by omega), ?_⟩
    rw [loadS_snoc _ _ (by omega)]
    exact h2
theorem seed_end {inp : List UInt8} {L : Ls} {s : Ms} (h : Stands L inp.length s) : To inp 6 s fun s' => s'.fin = 1 ∧ s'.out = L.out := by
  obtain ⟨hpc, hF, hrd, hout, hfin, h1, h2, hb⟩ := h
  obtain ⟨pc, r, rd, o, t, fin⟩ := s
  dsimp only at hpc hF hrd hout hfin hb
  subst hrd hout hfin hpc
  have hR := rg_of hF
  have hc : inp[inp.length]? = none := List.getElem?_eq_none (Nat.le_refl _)
  by_cases hn : L.note = true
  · rw [if_pos hn]
    refine e28 hc hR fun r h => ?_
    refine t29 h fun r h => ?_
    rw [show (applyW 15 256 10).1 = 0 by decide] at h
    refine t30 h (fun _ => ?_) (fun e => absurd rfl e)
    refine t31 h fun r h => ?_
    rw [show (applyW 14 256 256).1 = 0 by decide] at h
    refine t32 h (fun _ => ?_) (fun e => absurd rfl e)
    exact t33 ⟨rfl, rfl⟩
  · rw [if_neg hn]
    refine e9 hc hR fun r h => ?_
    refine t10 h fun r h => ?_
    rw [show (applyW 15 256 256).1 = 1 by decide] at h
    refine t11 h (fun e => absurd e one_ne) fun _ => ?_
    exact t33 ⟨rfl, rfl⟩
/-- The run: within the promised steps the seed halts, having put out what the loader tells. -/
theorem seed_runs (inp : List UInt8) : (itr inp (40 * (inp.length + 1)) s0).fin = 1 ∧ (itr inp (40 * (inp.length + 1)) s0).out = loadL inp := by
  obtain ⟨s1, g1, h1⟩ := seed_bytes inp.length (Nat.le_refl _)
  rw [List.take_of_length_le (Nat.le_refl _)] at h1
  obtain ⟨s2, g2, h2, h3⟩ := seed_end h1
  obtain ⟨m, hm, g⟩ := g1.trans g2
  have e := g (40 * (inp.length + 1) - m)
  rw [show m + (40 * (inp.length + 1) - m) = 40 * (inp.length + 1) by omega, itr_fin (s := s2) _ (by rw [h2]; decide)] at e
  rw [e]
  exact ⟨h2, h3⟩
/-- On the way there no more is put out than at the end. -/
theorem seed_out (inp : List UInt8) (j : Nat) (h : j ≤ 40 * (inp.length + 1)) : (itr inp j s0).out.length ≤ inp.length / 2 := by
  have h1 := itr_out inp j (40 * (inp.length + 1) - j) s0
  rw [show j + (40 * (inp.length + 1) - j) = 40 * (inp.length + 1) by omega, (seed_runs inp).2] at h1
  exact Nat.le_trans h1 (load_length inp)

theorem doI_st {inp : List UInt8} {op a b c : Nat} {s : Ms} : (doI inp op a b c s).st = s.st + 1 ∧ (s.rd ≤ inp.length → (doI inp op a b c s).rd ≤ inp.length) := by
  unfold doI
  repeat' split
  all_goals (first | exact ⟨rfl, fun h => h⟩ | skip)
  next x hx => exact ⟨rfl, fun _ => (List.getElem?_eq_some_iff.1 hx).1⟩
theorem stp_st {inp : List UInt8} {s : Ms} : (stp inp s).st ≤ s.st + 1 ∧ (s.rd ≤ inp.length → (stp inp s).rd ≤ inp.length) := by
  unfold stp
  split
  · exact ⟨Nat.le_of_eq doI_st.1, doI_st.2⟩
  · exact ⟨Nat.le_succ _, fun h => h⟩
theorem itr_st (inp : List UInt8) (k : Nat) : (itr inp k s0).st ≤ k ∧ (itr inp k s0).rd ≤ inp.length := by
  induction k with
  | zero => exact ⟨Nat.le_refl _, Nat.zero_le _⟩
  | succ k ih =>
    rw [itr_snoc]
    split
    · exact ⟨Nat.le_trans stp_st.1 (Nat.succ_le_succ ih.1), stp_st.2 ih.2⟩
    · exact ⟨Nat.le_succ_of_le ih.1, ih.2⟩
theorem itr_stop {inp : List UInt8} {k n : Nat} {s : Ms} (h : (itr inp k s).fin ≠ 0) (hk : k ≤ n) : itr inp n s = itr inp k s := by
  obtain ⟨d, rfl⟩ : ∃ d, n = k + d := ⟨n - k, by omega⟩
  clear hk
  induction d with
  | zero => rfl
  | succ d ih => rw [← Nat.add_assoc, itr_snoc, ih, if_neg h]
end Go.Proofs.YthfdjfgmgoafnaaDoor
