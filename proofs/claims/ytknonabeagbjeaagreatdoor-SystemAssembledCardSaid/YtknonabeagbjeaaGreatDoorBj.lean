/- Layer 12: the reader's state in memory; add, encode, Parts; walked. -/
/- Layer 12: the operand that is the number C; walked. -/
/- Layer 12: the operand of .word, or .data; walked. -/
import Derived.Lib.OthersKept
import Derived.Lib.BufferKept
import Derived.Maps.Own
import Derived.Maps.OwnOps
import Derived.Maps.OwnSet
import Derived.Maps.Views
import Derived.Test.YtknonabeagbjeaaGreatDoorBg
import Derived.Test.YtknonabeagbjeaaGreatDoorInC
namespace Go.Proofs.YtknonabeagbjeaaGreatDoor
open Go.RowKit Go.Maps

/-- The map as it is read holds just the labels of a list, each its place. -/
def PlD (D : DataW Unit) (pl : List (List UInt8 × Nat)) : Prop :=
  IsMap D ∧ ∀ l : List UInt8, has D (.string l) = (lookP l pl).isSome ∧ D.atKey (.string l) (.lit (.int .i64 0)) = .lit (.int .i64 ((lookP l pl).getD 0 : Nat))
theorem PlD.nil : PlD (.map []) [] := ⟨isMap_empty, fun _ => ⟨rfl, rfl⟩⟩
theorem PlD.put {D : DataW Unit} {pl : List (List UInt8 × Nat)} (h : PlD D pl) (k : List UInt8) (n : Nat) : PlD (D.put (.string k) (.lit (.int .i64 (n : Nat)))) ((k, n) :: pl) := by
  refine ⟨h.1.put _ _, fun l => ?_⟩
  have hkl : WideAt.IsKeyLit (.string l) := trivial
  by_cases e : k = l
  · subst e
    have e2 : lookP k ((k, n) :: pl) = some n := by unfold lookP; rw [List.find?_cons, decide_eq_true rfl]; rfl
    rw [has_put_same h.1 hkl, atKey_put_same h.1 hkl, e2]
    exact ⟨rfl, rfl⟩
  · have hne : (Lit.string l) ≠ (Lit.string k) := fun e2 => e (by injection e2 with e2; exact e2.symm)
    have e2 : lookP l ((k, n) :: pl) = lookP l pl := by unfold lookP; rw [List.find?_cons, decide_eq_false e]
    rw [has_put_other hne, atKey_put_other hne, e2]
    exact h.2 l

def usL (u : Int × Nat × List UInt8) : List Value := [.int .i64 u.1, .int .i64 (u.2.1 : Nat), sv u.2.2]
/-- What was read so far, in block q; the labels' map in block g. -/
structure Rs (q g : Nat) (s : Asm) (A : Option Addr) (c : Nat) (U : Option Addr) (cu : Nat) (W : World) : Prop where
  m : Blk W q 36 #[.slice A s.code.length c, .int .i64 (s.dat : Nat), .bool s.has, .map (some g), .slice U s.us.length cu]
  own : W.ownsRow q 43 1 (.slice A s.code.length c) s.code.length (s.code.map wv)
  us : W.ownsRow q 41 3 (.slice U s.us.length cu) s.us.length (s.us.flatMap usL)
  mp : ∃ D, W.ownsMap Tryz.prog 9 (plainElem (H := Unit) Tryz.prog 3) g s.pl.length D ∧ PlD D s.pl
/-- What a step of the reader leaves as it was: all but its own blocks. -/
def Kp (q g : Nat) (w w' : World) : Prop := ∀ k o, w.heap[k]? = some o → k ≠ q → k ≠ g → (∀ c fz, o ≠ .cells c 43 fz) → (∀ c fz, o ≠ .cells c 41 fz) → w'.heap[k]? = some o
theorem Kp.refl (q g : Nat) (w : World) : Kp q g w w := fun _ _ h _ _ _ _ => h
theorem Kp.trans {q g : Nat} {a b c : World} (h : Kp q g a b) (k : Kp q g b c) : Kp q g a c := fun i o hi h1 h2 h3 h4 => k i o (h i o hi h1 h2 h3 h4) h1 h2 h3 h4
theorem Kp.below {q g : Nat} {a b : World} (h : Below a.heap.size a b) : Kp q g a b := fun i _ hi _ _ _ _ => (h.block i (Array.getElem?_eq_some_iff.1 hi).1).trans hi
theorem Kp.set {q g : Nat} {a b : World} (h : Kp q g a b) (i : Nat) (v : Value) : Kp q g a (b.setCell ⟨q, i, none⟩ v) := fun k o hk h1 h2 h3 h4 => (Below.heap_setCell b ⟨q, i, none⟩ v k h1).trans (h k o hk h1 h2 h3 h4)
theorem blk_kp {w w' : World} {q g b : Nat} {t : TypeId} {cs : Array Value} (h : Blk w b t cs) (hk : Kp q g w w') (h1 : b ≠ q) (h2 : b ≠ g) (h3 : t ≠ 43) (h4 : t ≠ 41) : Blk w' b t cs :=
  hk b _ h h1 h2 (fun c fz e => by injection e with _ e _; exact h3 e) (fun c fz e => by injection e with _ e _; exact h4 e)
theorem own_far {w : World} {B E sz n g : Nat} {t : TypeId} {v u : Value} {i : Nat} {xs : List Value} {cs : Array Value} (h : w.ownsRow B E sz v n xs) (hb : Blk w g t cs) (hne : t ≠ E) : (w.setCell ⟨g, i, none⟩ u).ownsRow B E sz v n xs := by
  refine ⟨h.1, ?_⟩
  rcases h.2 with h2 | ⟨g', cap, cur, hv, hg, hh, r⟩
  · exact .inl h2
  · refine .inr ⟨g', cap, cur, hv, hg, ?_, r⟩
    have hgg : g' ≠ g := by
      intro e
      subst e
      unfold Blk at hb
      rw [hh] at hb
      injection hb with hb
      injection hb with _ hb _
      exact hne hb.symm
    exact (Below.heap_setCell w ⟨g, i, none⟩ u g' hgg).trans hh
/-- An append onto one row leaves a row of another type. -/
theorem own_append {w w' : World} {v v' : Value} {B B' E E' sz sz' n n' : Nat} {xs xs' : List Value} (h : w.ownsRow B E sz v n xs) (hown : w.ownsRow B' E' sz' v' n' xs') (hne : E ≠ E') (hk : ∀ k, k < w.heap.size → some k ≠ v'.ownBlock → w'.heap[k]? = w.heap[k]?) : w'.ownsRow B E sz v n xs := by
  refine ⟨h.1, ?_⟩
  rcases h.2 with h2 | ⟨g, cap, cur, hv, hg, hh, r⟩
  · exact .inl h2
  · refine .inr ⟨g, cap, cur, hv, hg, (hk g (Array.getElem?_eq_some_iff.1 hh).1 (fun e => ?_)).trans hh, r⟩
    rcases hown.2 with ⟨rfl, _⟩ | ⟨g', cap', cur', rfl, _, hh', _⟩
    · cases e
    · injection e with e
      subst e
      rw [hh] at hh'
      injection hh' with hh'
      injection hh' with _ hh' _
      exact hne hh'
theorem kp_append {w w' : World} {q g : Nat} {v : Value} {B E sz n : Nat} {xs : List Value} (hE : E = 43 ∨ E = 41) (hown : w.ownsRow B E sz v n xs) (hk : ∀ k, k < w.heap.size → some k ≠ v.ownBlock → w'.heap[k]? = w.heap[k]?) : Kp q g w w' := by
  intro k o h1 _ _ h3 h4
  refine (hk k (Array.getElem?_eq_some_iff.1 h1).1 (fun e => ?_)).trans h1
  rcases hown.2 with ⟨rfl, _⟩ | ⟨g', cap, cur, rfl, _, hh, _⟩
  · cases e
  · injection e with e
    subst e
    rw [hh] at h1
    injection h1 with h1
    rcases hE with rfl | rfl
    · exact h3 _ _ h1.symm
    · exact h4 _ _ h1.symm
theorem map_append {w w' : World} {g : Nat} {v : Value} {B E sz n N : Nat} {xs : List Value} {k : TypeId} {R : Value → Option (DataW Unit × List MemPlace)} {D : DataW Unit} (h : w.ownsMap Tryz.prog k R g N D) (hown : w.ownsRow B E sz v n xs) (hk : ∀ k, k < w.heap.size → some k ≠ v.ownBlock → w'.heap[k]? = w.heap[k]?) : w'.ownsMap Tryz.prog k R g N D := by
  obtain ⟨es, clock, hb, r⟩ := h
  refine ⟨es, clock, (hk g (Array.getElem?_eq_some_iff.1 hb).1 (fun e => ?_)).trans hb, r⟩
  rcases hown.2 with ⟨rfl, _⟩ | ⟨g', cap, cur, rfl, _, hh, _⟩
  · cases e
  · injection e with e
    subst e
    rw [hh] at hb
    cases hb
theorem map_set {w : World} {g N q i : Nat} {k : TypeId} {t : TypeId} {cs : Array Value} {u : Value} {R : Value → Option (DataW Unit × List MemPlace)} {D : DataW Unit} (h : w.ownsMap Tryz.prog k R g N D) (hb : Blk w q t cs) : (w.setCell ⟨q, i, none⟩ u).ownsMap Tryz.prog k R g N D := by
  obtain ⟨es, clock, hh, r⟩ := h
  refine ⟨es, clock, (Below.heap_setCell w ⟨q, i, none⟩ u g (fun e => ?_)).trans hh, r⟩
  have e2 : g = q := e
  subst e2
  unfold Blk at hb
  rw [hh] at hb
  cases hb
section
variable {q g c cu : Nat} {s : Asm} {A U : Option Addr} {W W' : World}
theorem Rs.below (h : Rs q g s A c U cu W) {B : Nat} (hB : B = W.heap.size) (hb : Below B W W') : Rs q g s A c U cu W' := by
  subst hB
  refine ⟨h.m.below hb h.m.lt, own_below h.own rfl hb, own_below h.us rfl hb, ?_⟩
  obtain ⟨D, ⟨es, clock, hh, r⟩, hP⟩ := h.mp
  exact ⟨D, ⟨es, clock, (hb.block g (Array.getElem?_eq_some_iff.1 hh).1).trans hh, r⟩, hP⟩
theorem Rs.alloc (h : Rs q g s A c U cu W) (o : Obj) : Rs q g s A c U cu (W.alloc o) := h.below rfl ((Below.refl _ W).alloc (Nat.le_refl _) o)
theorem Rs.drew (h : Rs q g s A c U cu W) : Rs q g s A c U cu W.drew := h.below rfl (Below.refl _ W).drew
theorem Rs.all (h : Rs q g s A c U cu W) : W.cell? ⟨q, 0, none⟩ = some (.slice A s.code.length c) ∧ W.cell? ⟨q, 1, none⟩ = some (.int .i64 (s.dat : Nat)) ∧ W.cell? ⟨q, 2, none⟩ = some (.bool s.has) ∧ W.cell? ⟨q, 3, none⟩ = some (.map (some g)) ∧ W.cell? ⟨q, 4, none⟩ = some (.slice U s.us.length cu) :=
  ⟨h.m.cell 0, h.m.cell 1, h.m.cell 2, h.m.cell 3, h.m.cell 4⟩
/-- A word behind the code. -/
theorem Rs.code {W3 : World} {x : UInt32} {r c' : Nat} (h : Rs q g s A c U cu W)
    (hown1 : W3.ownsRow q 43 1 (.slice (some ⟨r, 0, none⟩) (s.code.length + 1) c') (s.code.length + 1) (s.code.map wv ++ [.int .u32 x.toNat]))
    (hk3 : ∀ j, j < W.heap.size → some j ≠ (Value.slice A s.code.length c).ownBlock → W3.heap[j]? = W.heap[j]?) :
    Rs q g { s with code := s.code ++ [x] } (some ⟨r, 0, none⟩) c' U cu (W3.setCell ⟨q, 0, none⟩ (.slice (some ⟨r, 0, none⟩) (s.code.length + 1) c')) ∧ Kp q g W (W3.setCell ⟨q, 0, none⟩ (.slice (some ⟨r, 0, none⟩) (s.code.length + 1) c')) := by
  have hm3 := h.m.keep hk3 h.own (by decide)
  refine ⟨⟨?_, ?_, ?_, ?_⟩, (kp_append (.inl rfl) h.own hk3).set 0 _⟩
  · have k := hm3.set 0 (.slice (some ⟨r, 0, none⟩) (s.code.length + 1) c')
    show Blk _ q _ #[.slice _ (s.code ++ [x]).length _, _, _, _, _]
    rw [List.length_append]
    exact k
  · have k := own_far (u := .slice (some ⟨r, 0, none⟩) (s.code.length + 1) c') (i := 0) hown1 hm3 (by decide)
    show World.ownsRow _ q _ 1 (.slice _ (s.code ++ [x]).length _) (s.code ++ [x]).length ((s.code ++ [x]).map wv)
    rw [List.length_append, List.map_append]
    exact k
  · exact own_far (own_append h.us h.own (by decide) hk3) hm3 (by decide)
  · obtain ⟨D, hD, hP⟩ := h.mp
    exact ⟨D, map_set (map_append hD h.own hk3) hm3, hP⟩
end
/-- What a step of the reader gives. -/
def StepP (B q g : Nat) (r : Option Asm) (W : World) (e : Ending) (w' : World) : Prop :=
  (Below B W w' ∧ Kp q g W w') ∧ match r with
  | none => ∃ k : Int, k ≠ 0 ∧ e = .returned (.int .i64 k)
  | some s' => e = .returned (.int .i64 0) ∧ ∃ A c U cu, Rs q g s' A c U cu w'
theorem StepP.bad {B q g : Nat} {W w' : World} {r : Option Asm} (hr : r = none) (k : Int) (hk : k ≠ 0) (hb : Below B W w') (hK : Kp q g W w') : StepP B q g r W (.returned (.int .i64 k)) w' := by
  subst hr
  exact ⟨⟨hb, hK⟩, k, hk, rfl⟩
theorem StepP.good {B q g : Nat} {W w' : World} {r : Option Asm} {s' : Asm} {A U : Option Addr} {c cu : Nat} (hr : r = some s') (hb : Below B W w') (hK : Kp q g W w') (h : Rs q g s' A c U cu w') : StepP B q g r W (.returned (.int .i64 0)) w' := by
  subst hr
  exact ⟨⟨hb, hK⟩, rfl, A, c, U, cu, h⟩
theorem StepP.after {B q g : Nat} {W V w' : World} {r : Option Asm} {e : Ending} (hb : Below B W V) (hK : Kp q g W V) (h : StepP B q g r V e w') : StepP B q g r W e w' := ⟨⟨hb.trans h.1.1, hK.trans h.1.2⟩, h.2⟩
/-- A step's ending is a number. -/
theorem StepP.num {B q g : Nat} {W w' : World} {r : Option Asm} {e : Ending} (h : StepP B q g r W e w') : ∃ k : Int, e = .returned (.int .i64 k) := by
  cases r with
  | none => obtain ⟨_, k, _, rfl⟩ := h; exact ⟨k, rfl⟩
  | some s => obtain ⟨_, rfl, _⟩ := h; exact ⟨0, rfl⟩

set_option maxHeartbeats 1000000 in
theorem asm_add (q g c cu : Nat) (s : Asm) (A U : Option Addr) (x : UInt32) (W : World) (B : Nat) (hB : B ≤ q) (h : Rs q g s A c U cu W) :
    Calls Tryz.prog 38 #[.pointer (some ⟨q, 0, none⟩), .int .u32 x.toNat] W (StepP B q g (addX s x) W) := by
  obtain ⟨m0, -, -, -, -⟩ := h.all
  have hq := h.m.lt
  have H := Lib.hid h
  have hown := h.own
  unfold addX
  by_cases hl : 16384 ≤ s.code.length
  · have hI : (16384 : Int) ≤ s.code.length := by omega
    rw [if_pos hl]
    clear h hl hown
    go_enter Tryz.func38, Tryz.ntmps38
    go_wp2_with fail
    go_returns
    exact StepP.bad rfl 2 (by decide) (Below.refl _ _) (Kp.refl _ _ _)
  · have hI : ¬ (16384 : Int) ≤ s.code.length := by omega
    rw [if_neg hl]
    have hl2 : s.code.length < 16384 := by omega
    clear h hl
    go_enter Tryz.func38, Tryz.ntmps38
    go_wp2_with (at_builtin; refine wpList_append_new rfl _ _ 22 rfl q (.int .u32 0) 1 4 Tryz.underlying22 (by kernel_rfl) rfl (by decide) (.slice A s.code.length c) s.code.length _ rfl hown 1 rfl rfl (by simp [Value.oneCell']) (by omega) (by omega) (by omega) ?_; intro v1 w3 hown1 hb3 hk3; obtain ⟨r, c', rfl, hgq, hgl, -⟩ := own_form hown1 (by omega); have hm3 := H.out.m.keep hk3 hown (by decide); have m3 := hm3.cell 0; have mf3 := hm3.frozen 0; have HK := Lib.hid hk3; clear hk3 m0 hm3)
    go_returns
    obtain ⟨k1, k2⟩ := H.out.code hown1 HK.out
    exact StepP.good rfl ((hb3.mono hB).setCell hB _) k2 k1

theorem inst_Parts (op : Int) (w : World) :
    Calls Tryz.prog 41 #[.int .i64 op] w fun e w' => e = .returned (.tuple #[.bool (shA op), .bool (shB op), .int .i64 (shC op)]) ∧ Below w.heap.size w w' := by
  have K := inst_shapeOf op w
  generalize (⟨(nameI op).toArray⟩ : ByteArray) = N at K
  have KH := Lib.hid K
  clear K
  go_enter Tryz.func41, Tryz.ntmps41
  go_wp2_with fail
  refine KH.out.mono ?_
  rintro e w1 ⟨rfl, hb1⟩
  go_wp2_with fail
  go_quiet (fail)
  go_wp2_with fail
  go_returns
  exact ⟨rfl, hb1.trans ⟨rfl, rfl, rfl, by simp, fun k hk => Below.heap_alloc _ _ _ (Nat.lt_of_lt_of_le hk hb1.size)⟩⟩

set_option maxHeartbeats 1000000 in
theorem asm_encode (q g c cu : Nat) (s : Asm) (A U : Option Addr) (op a b k : Int) (W : World) (B : Nat) (hB : B ≤ q) (h : Rs q g s A c U cu W) :
    Calls Tryz.prog 43 #[.pointer (some ⟨q, 0, none⟩), .agg #[.int .i64 op, .int .i64 a, .int .i64 b, .int .i64 k]] W (StepP B q g (encX s op a b k) W) := by
  have H := Lib.hid (h.alloc (.cells #[.int .i64 op, .int .i64 a, .int .i64 b, .int .i64 k] 70))
  have hq := h.m.lt
  unfold encX
  cases hr : rightI op a b k with
  | false =>
    rw [if_neg (by decide)]
    have KE := Lib.hid (fun W => inst_Encode_bad op a b k W hr)
    clear h hr
    go_enter Tryz.func43, Tryz.ntmps43
    go_wp2_with fail
    refine (KE.out _).mono ?_
    rintro e w1 ⟨rfl, hb1⟩
    have hb2 := below_new hb1
    go_wp2_with fail
    go_returns
    exact StepP.bad rfl 1 (by decide) (hb2.mono (by omega)) (Kp.below hb2)
  | true =>
    rw [if_pos rfl]
    obtain ⟨⟨o1, o2⟩, ⟨a1, a2⟩, ⟨b1, b2⟩, ⟨c1, c2⟩⟩ := right_bounds hr
    have KE := Lib.hid (fun W => inst_Encode op a b k W hr)
    obtain ⟨x, hx⟩ : ∃ x, UInt32.ofNat (encI op a b k).toNat = x := ⟨_, rfl⟩
    have hxe : encI op a b k = (x.toNat : Int) := by
      rw [← hx, UInt32.toNat_ofNat']
      unfold encI
      omega
    rw [hx]
    rw [hxe] at KE
    clear h hr hx hxe
    go_enter Tryz.func43, Tryz.ntmps43
    go_wp2_with fail
    refine (KE.out _).mono ?_
    rintro e w1 ⟨rfl, hb1⟩
    have hb2 := below_new hb1
    have h1 := H.out.below rfl hb1
    have KA := Lib.hid (asm_add q g c cu s A U x w1 B hB h1)
    clear h1
    go_wp2_with fail
    refine KA.out.mono ?_
    intro e w2 hS
    obtain ⟨z, rfl⟩ := hS.num
    have HS := Lib.hid (StepP.after (hb2.mono (by omega)) (Kp.below hb2) hS)
    clear hS
    go_wp2_with fail
    go_returns
    exact HS.out
end Go.Proofs.YtknonabeagbjeaaGreatDoor
namespace Go.Proofs.YtknonabeagbjeaaGreatDoor
open Go.RowKit Go.Maps

/-- A label used. -/
theorem Rs.use {q g c cu : Nat} {s : Asm} {A U : Option Addr} {W W3 : World} {n : Int} {k : Nat} {lb : ByteArray} {r c' : Nat} (h : Rs q g s A c U cu W)
    (hown1 : W3.ownsRow q 41 3 (.slice (some ⟨r, 0, none⟩) (s.us.length + 1) c') (s.us.length + 1) (s.us.flatMap usL ++ [.int .i64 n, .int .i64 (k : Nat), .string lb]))
    (hk3 : ∀ j, j < W.heap.size → some j ≠ (Value.slice U s.us.length cu).ownBlock → W3.heap[j]? = W.heap[j]?) :
    Rs q g { s with us := s.us ++ [(n, k, lb.data.toList)] } A c (some ⟨r, 0, none⟩) c' (W3.setCell ⟨q, 4, none⟩ (.slice (some ⟨r, 0, none⟩) (s.us.length + 1) c')) ∧ Kp q g W (W3.setCell ⟨q, 4, none⟩ (.slice (some ⟨r, 0, none⟩) (s.us.length + 1) c')) := by
  have hm3 := h.m.keep hk3 h.us (by decide)
  refine ⟨⟨?_, ?_, ?_, ?_⟩, (kp_append (.inr rfl) h.us hk3).set 4 _⟩
  · have k2 := hm3.set 4 (.slice (some ⟨r, 0, none⟩) (s.us.length + 1) c')
    show Blk _ q _ #[_, _, _, _, .slice _ (s.us ++ [(n, k, lb.data.toList)]).length _]
    rw [List.length_append]
    exact k2
  · exact own_far (own_append h.own h.us (by decide) hk3) hm3 (by decide)
  · have k2 := own_far (u := .slice (some ⟨r, 0, none⟩) (s.us.length + 1) c') (i := 4) hown1 hm3 (by decide)
    show World.ownsRow _ q _ 3 (.slice _ (s.us ++ [(n, k, lb.data.toList)]).length _) (s.us ++ [(n, k, lb.data.toList)]).length ((s.us ++ [(n, k, lb.data.toList)]).flatMap usL)
    rw [List.length_append, List.flatMap_append, List.flatMap_singleton, show usL (n, k, lb.data.toList) = [.int .i64 n, .int .i64 (k : Nat), .string lb] from by unfold usL sv; rw [← bs_eq lb]]
    exact k2
  · obtain ⟨D, hD, hP⟩ := h.mp
    exact ⟨D, map_set (map_append hD h.us hk3) hm3, hP⟩

theorem Rs.far {q g c cu : Nat} {s : Asm} {A U : Option Addr} {W : World} {b : Nat} {t : TypeId} {cs : Array Value} (h : Rs q g s A c U cu W) (hb : Blk W b t cs) (hq : b ≠ q) (h1 : t ≠ 43) (h2 : t ≠ 41) (i : Nat) (u : Value) : Rs q g s A c U cu (W.setCell ⟨b, i, none⟩ u) := by
  refine ⟨h.m.far (p := ⟨b, i, none⟩) (Ne.symm hq) u, own_far h.own hb h1, own_far h.us hb h2, ?_⟩
  obtain ⟨D, hD, hP⟩ := h.mp
  exact ⟨D, map_set hD hb, hP⟩
/-- The boxes of the instruction and of the operand beside the reader's state. -/
structure Wc (W0 : World) (q g b1 b2 : Nat) (s : Asm) (A : Option Addr) (c : Nat) (U : Option Addr) (cu : Nat) (ins opd : Array Value) (W : World) : Prop where
  r : Rs q g s A c U cu W
  i : Blk W b1 70 ins
  o : Blk W b2 81 opd
  bel : Below W0.heap.size W0 W
section
variable {W0 W W' : World} {q g b1 b2 c cu : Nat} {s : Asm} {A U : Option Addr} {ins opd : Array Value}
theorem Wc.below (h : Wc W0 q g b1 b2 s A c U cu ins opd W) {B : Nat} (hB : B = W.heap.size) (hb : Below B W W') : Wc W0 q g b1 b2 s A c U cu ins opd W' := by
  subst hB
  exact ⟨h.r.below rfl hb, h.i.below hb h.i.lt, h.o.below hb h.o.lt, h.bel.trans (hb.mono h.bel.size)⟩
theorem Wc.drew (h : Wc W0 q g b1 b2 s A c U cu ins opd W) : Wc W0 q g b1 b2 s A c U cu ins opd W.drew := h.below rfl (Below.refl _ W).drew
theorem Wc.alloc (h : Wc W0 q g b1 b2 s A c U cu ins opd W) (o : Obj) : Wc W0 q g b1 b2 s A c U cu ins opd (W.alloc o) := h.below rfl ((Below.refl _ W).alloc (Nat.le_refl _) o)
end

set_option maxRecDepth 100000 in
set_option maxHeartbeats 4000000 in
theorem asm_withC (q g c cu : Nat) (s : Asm) (A U : Option Addr) (n op a b : Int) (arg : ByteArray) (W : World) (B : Nat) (hB : B ≤ q) (hT : Small W) (harg : arg.size ≤ 1000000) (hu : s.us.length ≤ 1000000) (h : Rs q g s A c U cu W) :
    Calls Tryz.prog 42 #[.pointer (some ⟨q, 0, none⟩), .int .i64 n, .agg #[.int .i64 op, .int .i64 a, .int .i64 b, .int .i64 0], .string arg] W (StepP B q g (withX s n op a b arg.data.toList) W) := by
  have hq := h.m.lt
  have hb0 := (Below.refl _ W).alloc (Nat.le_refl _) (.cells #[.int .i64 op, .int .i64 a, .int .i64 b, .int .i64 0] 70)
  have H0 := h.alloc (.cells #[.int .i64 op, .int .i64 a, .int .i64 b, .int .i64 0] 70)
  have I0 := Blk.new W 70 #[.int .i64 op, .int .i64 a, .int .i64 b, .int .i64 0]
  have KO := asm_operandOf arg (W.alloc (.cells #[.int .i64 op, .int .i64 a, .int .i64 b, .int .i64 0] 70)) harg (hT.below hb0 hT.1)
  obtain ⟨X, hX⟩ : ∃ X, withX s n op a b arg.data.toList = X := ⟨_, rfl⟩
  rw [hX]
  unfold withX at hX
  simp only at hX
  generalize opndX arg.data.toList = o at KO hX
  obtain ⟨ok, on, og⟩ := o
  unfold opV at KO
  simp only at KO hX
  have HKO := Lib.hid KO
  have HX := Lib.hid hX
  clear KO hX h
  by_cases hk3 : ok = 3
  · subst hk3
    have hX2 := HX.out
    rw [if_pos rfl] at hX2
    have HX2 := Lib.hid hX2
    clear hX2 HX
    go_enter Tryz.func42, Tryz.ntmps42
    go_wp2_with fail
    refine HKO.out.mono ?_
    rintro e w1 ⟨rfl, b1⟩
    have hz1 := b1.size
    have H1 : Wc W q g W.heap.size w1.heap.size s A c U cu #[.int .i64 op, .int .i64 a, .int .i64 b, .int .i64 0] #[.int .i64 3, .int .u32 (on : Nat), .bool og] (w1.alloc (.cells #[.int .i64 3, .int .u32 (on : Nat), .bool og] 81)) :=
      ⟨(H0.below rfl b1).alloc _, (I0.below b1 I0.lt).alloc _, Blk.new w1 _ _, (hb0.trans (b1.mono hb0.size)).alloc (Nat.le_trans hb0.size b1.size) _⟩
    clear b1 hz1
    go_wp2_with fail
    generalize World.alloc w1 _ = V at H1 ⊢
    generalize w1.heap.size = b2 at H1 ⊢
    obtain ⟨f0, -, -, -, f4⟩ := H1.r.all
    have fz4 := H1.r.m.frozen 4
    have hus := H1.r.us
    have hqV := H1.r.m.lt
    have HH := Lib.hid H1
    clear H1
    have husD : V.drew.ownsRow q 41 3 (.slice U s.us.length cu) s.us.length (s.us.flatMap usL) := hus
    go_region_law ((first
      | (refine step_append_new (w := V.drew) rfl rfl _ _ 34 rfl q (.agg #[.int .i64 0, .int .i64 0, .string ⟨#[]⟩]) 3 32 Tryz.underlying34 (by kernel_rfl) rfl (by decide) (.slice U s.us.length cu) s.us.length _ rfl husD 1 rfl rfl (by simp [Value.oneCell']) (by omega) (by omega) (Nat.le_of_lt hqV) (by decide) ?_; intro r c' w3 hown1 hb3 hk3; have hM3 := (HH.out.r.m.drew).keep hk3 husD (by decide); have m34 := hM3.cell 4; have z34 := hM3.frozen 4)))
    all_goals
      obtain ⟨k1, k2⟩ := (HH.out.r.drew).use hown1 hk3
      have hI4 := ((HH.out.i.drew).keep hk3 husD (by decide)).far (p := ⟨q, 4, none⟩) (Nat.ne_of_gt hq) (.slice (some ⟨r, 0, none⟩) (s.us.length + 1) c')
      have kb := hb3.setCell (p := ⟨q, 4, none⟩) (Nat.le_refl q) (.slice (some ⟨r, 0, none⟩) (s.us.length + 1) c')
      have bb := HH.out.bel
      clear hown1 hk3 hb3 hM3 m34 z34 husD hus f0 f4 fz4
      generalize World.setCell w3 _ _ = V3 at k1 k2 hI4 kb ⊢
      have i0 := hI4.cell 0
      have i1 := hI4.cell 1
      have i2 := hI4.cell 2
      have i3 := hI4.cell 3
      have KE := Lib.hid (asm_encode q g c c' _ A _ op a b 0 V3 B hB k1)
      rw [HX2.out] at KE
      have BB := Lib.hid ((bb.mono (show B ≤ W.heap.size from by omega)).trans ((show Below q V V3 from ⟨kb.os, kb.tape, kb.output, kb.size, kb.block⟩).mono hB))
      have KK := Lib.hid ((Kp.below bb).trans (show Kp q g V V3 from k2))
      clear k1 k2 kb bb hI4
      go_wp2_with fail
      refine KE.out.mono ?_
      intro e w2 hS
      obtain ⟨z, rfl⟩ := hS.num
      have HS := Lib.hid (StepP.after BB.out KK.out hS)
      clear hS
      go_wp2_with fail
      go_returns
      exact HS.out
  · have hX2 := HX.out
    rw [if_neg hk3] at hX2
    have q3 : (ok == 3) = false := by rw [beq_eq_false_iff_ne]; exact hk3
    by_cases hk2 : ok = 2
    · subst hk2
      rw [if_neg (by decide)] at hX2
      by_cases hbig : og = true ∨ 65535 < on
      · rw [if_pos hbig] at hX2
        subst hX2
        have hsplit : og = true ∨ (og = false ∧ (65535 : Int) < (on : Int)) := by
          cases og with
          | true => exact .inl rfl
          | false => exact .inr ⟨rfl, by rcases hbig with h | h; exact absurd h (by decide); omega⟩
        clear hbig HX hk3
        rcases hsplit with rfl | ⟨rfl, hI⟩
        all_goals
          go_enter Tryz.func42, Tryz.ntmps42
          go_wp2_with fail
          refine HKO.out.mono ?_
          rintro e w1 ⟨rfl, b1⟩
          have bb := hb0.trans (b1.mono hb0.size)
          have bc := fun o => bb.alloc bb.size o
          clear b1
          go_wp2_with fail
          go_returns
          exact StepP.bad rfl 2 (by decide) ((bc _).mono (by omega)) (Kp.below (bc _))
      · rw [if_neg hbig] at hX2
        obtain rfl : og = false := by cases og with | false => rfl | true => exact absurd (.inl rfl) hbig
        have hI : ¬ (65535 : Int) < (on : Int) := by omega
        have hI2 : (0 : Int) ≤ (on : Int) := by omega
        have HX2 := Lib.hid hX2
        clear hX2 HX hbig hk3
        go_enter Tryz.func42, Tryz.ntmps42
        go_wp2_with fail
        refine HKO.out.mono ?_
        rintro e w1 ⟨rfl, b1⟩
        have I1 := I0.below b1 I0.lt
        have R1 := H0.below rfl b1
        have bb := hb0.trans (b1.mono hb0.size)
        have i0 : w1.cell? ⟨W.heap.size, 0, none⟩ = some (.int .i64 op) := I1.cell 0
        have i1 : w1.cell? ⟨W.heap.size, 1, none⟩ = some (.int .i64 a) := I1.cell 1
        have i2 : w1.cell? ⟨W.heap.size, 2, none⟩ = some (.int .i64 b) := I1.cell 2
        have i3 : w1.cell? ⟨W.heap.size, 3, none⟩ = some (.int .i64 0) := I1.cell 3
        have ifz := I1.frozen 3
        have hlt1 := I1.lt
        have HI1 := Lib.hid I1
        have HR1 := Lib.hid R1
        have HBB := Lib.hid bb
        clear I1 R1 bb b1
        go_wp2_with fail
        have bV := (HBB.out.setCell (p := ⟨W.heap.size, 3, none⟩) (Nat.le_refl _) (.int .i64 (on : Nat))).alloc (show W.heap.size ≤ _ from (HBB.out.setCell (p := ⟨W.heap.size, 3, none⟩) (Nat.le_refl _) (.int .i64 (on : Nat))).size) (.cells #[.int .i64 2, .int .u32 (on : Nat), .bool false] 81)
        have rV := (HR1.out.far HI1.out (Nat.ne_of_gt hq) (by decide) (by decide) 3 (.int .i64 (on : Nat))).alloc (.cells #[.int .i64 2, .int .u32 (on : Nat), .bool false] 81)
        clear i0 i1 i2 i3 ifz
        generalize World.alloc (World.setCell _ _ _) _ = V at bV rV ⊢
        have KE := Lib.hid (asm_encode q g c cu s A U op a b on V B hB rV)
        rw [HX2.out] at KE
        have BV := Lib.hid bV
        clear rV bV
        refine KE.out.mono ?_
        intro e w2 hS
        obtain ⟨z, rfl⟩ := hS.num
        have HS := Lib.hid (StepP.after (BV.out.mono (by omega)) (Kp.below BV.out) hS)
        clear hS
        go_wp2_with fail
        go_returns
        exact HS.out
    · have q2 : (ok != 2) = true := by rw [bne_iff_ne]; exact hk2
      rw [if_pos hk2] at hX2
      subst hX2
      clear hk2 hk3 HX
      go_enter Tryz.func42, Tryz.ntmps42
      go_wp2_with fail
      refine HKO.out.mono ?_
      rintro e w1 ⟨rfl, b1⟩
      have bb := hb0.trans (b1.mono hb0.size)
      have bc := bb.alloc bb.size (.cells #[.int .i64 ok, .int .u32 (on : Nat), .bool og] 81)
      clear b1
      go_wp2_with fail
      go_returns
      exact StepP.bad rfl 1 (by decide) (bc.mono (by omega)) (Kp.below bc)
end Go.Proofs.YtknonabeagbjeaaGreatDoor
namespace Go.Proofs.YtknonabeagbjeaaGreatDoor
open Go.RowKit Go.Maps

theorem dirX_many (s : Asm) (o : List UInt8) (gs : List (List UInt8)) (h : gs.length ≠ 1) : dirX s o gs = none := by
  unfold dirX
  split
  · exact absurd rfl h
  · rfl
theorem opnd_lt (l : List UInt8) : (opndX l).2.1 < 4294967296 := by
  unfold opndX
  have hp : ∀ l, (parseW l).1.toNat < 4294967296 := fun l => (parseW l).1.toNat_lt
  split
  · exact hp _
  · split
    · exact hp _
    · split
      · decide
      · split
        · unfold hexX
          split
          · decide
          · simp only
            split
            · rename_i h1 h2 h3 h4 h5
              have h6 := parseI_len (List.replicate (8 - (l.drop 2).length) 48 ++ l.drop 2)
              have hlen : (List.replicate (8 - (l.drop 2).length) (48 : UInt8) ++ l.drop 2).length = 8 := by rw [List.length_append, List.length_replicate]; omega
              rw [hlen] at h6
              generalize (parseI (List.replicate (8 - (l.drop 2).length) 48 ++ l.drop 2)).1 = x at h6 ⊢
              have h7 := val256_lt x x.length (Nat.le_refl _)
              rw [List.take_of_length_le (Nat.le_refl _)] at h7
              have h8 : 256 ^ x.length ≤ 256 ^ 4 := Nat.pow_le_pow_right (by decide) (by omega)
              exact Nat.lt_of_lt_of_le h7 h8
            · decide
        · split
          · rename_i b _
            have := b.toNat_lt
            show b.toNat < _
            omega
          · split <;> decide
theorem Rs.data {q g c cu : Nat} {s : Asm} {A U : Option Addr} {W : World} (h : Rs q g s A c U cu W) (n : Nat) :
    Rs q g { s with dat := n, has := true } A c U cu ((W.setCell ⟨q, 2, none⟩ (.bool true)).setCell ⟨q, 1, none⟩ (.int .i64 (n : Nat))) ∧ Kp q g W ((W.setCell ⟨q, 2, none⟩ (.bool true)).setCell ⟨q, 1, none⟩ (.int .i64 (n : Nat))) := by
  have m1 := h.m.set 2 (.bool true)
  refine ⟨⟨m1.set 1 (.int .i64 (n : Nat)), own_far (own_far h.own h.m (by decide)) m1 (by decide), own_far (own_far h.us h.m (by decide)) m1 (by decide), ?_⟩, ((Kp.refl q g W).set 2 _).set 1 _⟩
  obtain ⟨D, hD, hP⟩ := h.mp
  exact ⟨D, map_set (map_set hD h.m) m1, hP⟩

set_option maxRecDepth 100000 in
set_option maxHeartbeats 4000000 in
theorem asm_direct (q g c cu k : Nat) (s : Asm) (A U L : Option Addr) (ob : ByteArray) (gs : List (List UInt8)) (W : World) (B : Nat) (hB : B ≤ q) (hT : Small W) (hob : ob.data.toList = wordL ∨ ob.data.toList = dataL) (hS : Sl W W.heap.size L gs.length (gs.map sv)) (hgs : ∀ a ∈ gs, a.length ≤ 1000000) (h : Rs q g s A c U cu W) :
    Calls Tryz.prog 20 #[.pointer (some ⟨q, 0, none⟩), .string ob, .slice L gs.length k] W (StepP B q g (dirX s ob.data.toList gs) W) := by
  have hq := h.m.lt
  obtain ⟨m0, m1, m2, -, -⟩ := h.all
  have n1 : (ob.toList == [46, 100, 97, 116, 97]) = decide (ob.data.toList = dataL) := by
    rw [Lib.toList_data]
    rcases hob with e | e <;> rw [e] <;> decide
  have n2 : (ob.toList == [46, 119, 111, 114, 100]) = decide (ob.data.toList = wordL) := by
    rw [Lib.toList_data]
    rcases hob with e | e <;> rw [e] <;> decide
  by_cases hl : gs.length ≠ 1
  · rw [dirX_many s _ gs hl]
    have q1 : ((gs.length : Int) != 1) = true := by rw [bne_iff_ne]; omega
    clear n1 n2 hS h hl
    go_enter Tryz.func20, Tryz.ntmps20
    go_wp2_with fail
    go_returns
    exact StepP.bad rfl 1 (by decide) (Below.refl _ _) (Kp.refl _ _ _)
  · obtain ⟨a, rfl⟩ : ∃ a, gs = [a] := by
      match gs, (show gs.length = 1 by omega) with
      | [a], _ => exact ⟨a, rfl⟩
    have ha := hgs a (by simp)
    obtain ⟨b, off, rfl, hblt, hcell⟩ := hS.2 (Nat.lt_succ_self 0)
    have c0 : W.cell? ⟨b, off, none⟩ = some (.string (bs a)) := hcell 0 _ rfl
    obtain ⟨ab, hab⟩ : ∃ x : ByteArray, bs a = x := ⟨_, rfl⟩
    have hal : a = ab.data.toList := by rw [← hab]
    have haz : ab.size ≤ 1000000 := by rw [size_len, ← hal]; exact ha
    rw [hab] at c0
    have KO := asm_operandOf ab W haz hT
    obtain ⟨X, hX⟩ : ∃ X, dirX s ob.data.toList [a] = X := ⟨_, rfl⟩
    rw [hX]
    unfold dirX at hX
    simp only at hX
    rw [hal] at hX
    have hlt := opnd_lt ab.data.toList
    generalize opndX ab.data.toList = o at KO hX hlt
    obtain ⟨ok, on, og⟩ := o
    unfold opV at KO
    simp only at KO hX hlt
    have HKO := Lib.hid KO
    have HX := Lib.hid hX
    have HR := Lib.hid h
    have hB2 : B ≤ W.heap.size := by omega
    clear KO hX hab hal ha hS hcell hgs hl h
    rcases hob with ho | ho
    · rw [decide_eq_false (by rw [ho]; decide)] at n1
      rw [decide_eq_true ho] at n2
      have n1' : (ob.toList = [46, 100, 97, 116, 97]) = False := eq_false (by simpa using n1)
      have n2' : (ob.toList = [46, 119, 111, 114, 100]) = True := eq_true (by simpa using n2)
      have hX2 := HX.out
      rw [ho, if_neg (by intro e; exact absurd e.1 (by decide))] at hX2
      by_cases hk : ok = 2
      · subst hk
        rw [if_neg (by decide), if_pos rfl] at hX2
        cases og with
        | true =>
          rw [if_pos rfl] at hX2
          subst hX2
          clear HX ho
          go_enter Tryz.func20, Tryz.ntmps20
          go_wp2_with fail
          refine HKO.out.mono ?_
          rintro e w1 ⟨rfl, b1⟩
          have bc := fun o => b1.alloc b1.size o
          clear b1
          go_wp2_with fail
          go_returns
          exact StepP.bad rfl 2 (by decide) ((bc _).mono hB2) (Kp.below (bc _))
        | false =>
          rw [if_neg (by decide)] at hX2
          have HX2 := Lib.hid hX2
          have hto : (((UInt32.ofNat on).toNat : Nat) : Int) = (on : Int) := by rw [UInt32.toNat_ofNat']; omega
          clear HX ho hX2
          go_enter Tryz.func20, Tryz.ntmps20
          go_wp2_with fail
          refine HKO.out.mono ?_
          rintro e w1 ⟨rfl, b1⟩
          have bc := b1.alloc b1.size (.cells #[.int .i64 2, .int .u32 (on : Nat), .bool false] 81)
          have R1 := (HR.out.below rfl b1).alloc (.cells #[.int .i64 2, .int .u32 (on : Nat), .bool false] 81)
          clear b1
          go_wp2_with fail
          have KA := asm_add q g c cu s A U (UInt32.ofNat on) _ B hB R1
          rw [hto, HX2.out] at KA
          have HKA := Lib.hid KA
          have HBC := Lib.hid bc
          clear KA R1 bc
          refine HKA.out.mono ?_
          intro e w2 hS
          obtain ⟨z, rfl⟩ := hS.num
          have HS := Lib.hid (StepP.after (HBC.out.mono hB2) (Kp.below HBC.out) hS)
          clear hS
          go_wp2_with fail
          go_returns
          exact HS.out
      · have q2 : (ok != 2) = true := by rw [bne_iff_ne]; exact hk
        rw [if_pos hk] at hX2
        subst hX2
        clear HX ho hk
        go_enter Tryz.func20, Tryz.ntmps20
        go_wp2_with fail
        refine HKO.out.mono ?_
        rintro e w1 ⟨rfl, b1⟩
        have bc := fun o => b1.alloc b1.size o
        clear b1
        go_wp2_with fail
        go_returns
        exact StepP.bad rfl 1 (by decide) ((bc _).mono hB2) (Kp.below (bc _))
    · rw [decide_eq_true ho] at n1
      rw [decide_eq_false (by rw [ho]; decide)] at n2
      have n1' : (ob.toList = [46, 100, 97, 116, 97]) = True := eq_true (by simpa using n1)
      have n2' : (ob.toList = [46, 119, 111, 114, 100]) = False := eq_false (by simpa using n2)
      have hX2 := HX.out
      cases hh : s.has with
      | true =>
        rw [if_pos ⟨ho, hh⟩] at hX2
        subst hX2
        rw [hh] at m2
        clear HX ho hh
        go_enter Tryz.func20, Tryz.ntmps20
        go_wp2_with fail
        go_returns
        exact StepP.bad rfl 1 (by decide) (Below.refl _ _) (Kp.refl _ _ _)
      | false =>
        rw [if_neg (fun e => by rw [hh] at e; exact absurd e.2 (by decide))] at hX2
        rw [hh] at m2
        by_cases hk : ok = 2
        · subst hk
          rw [if_neg (by decide), if_neg (by rw [ho]; decide)] at hX2
          by_cases hbig : og = true ∨ 32768 < on
          · rw [if_pos hbig] at hX2
            subst hX2
            have hsplit : og = true ∨ (og = false ∧ (32768 : Int) < (on : Int)) := by
              cases og with
              | true => exact .inl rfl
              | false => exact .inr ⟨rfl, by rcases hbig with h | h; exact absurd h (by decide); omega⟩
            clear hbig HX ho hh
            rcases hsplit with rfl | ⟨rfl, hI⟩
            all_goals
              go_enter Tryz.func20, Tryz.ntmps20
              go_wp2_with fail
              refine HKO.out.mono ?_
              rintro e w1 ⟨rfl, b1⟩
              have bc := fun o => b1.alloc b1.size o
              clear b1
              go_wp2_with fail
              go_returns
              exact StepP.bad rfl 2 (by decide) ((bc _).mono hB2) (Kp.below (bc _))
          · rw [if_neg hbig] at hX2
            obtain rfl : og = false := by cases og with | false => rfl | true => exact absurd (.inl rfl) hbig
            have hI : ¬ (32768 : Int) < (on : Int) := by omega
            have hI2 : (0 : Int) ≤ (on : Int) := by omega
            have HX2 := Lib.hid hX2
            clear HX ho hh hX2 hbig
            go_enter Tryz.func20, Tryz.ntmps20
            go_wp2_with fail
            refine HKO.out.mono ?_
            rintro e w1 ⟨rfl, b1⟩
            have R1 := HR.out.below rfl b1
            obtain ⟨-, r1, r2, -, -⟩ := R1.all
            have z1 := R1.m.frozen 1
            have z2 := R1.m.frozen 2
            have hql := R1.m.lt
            obtain ⟨D1, D2⟩ := R1.data on
            have R3 := D1.alloc (.cells #[.int .i64 2, .int .u32 (on : Nat), .bool false] 81)
            have bq := ((b1.mono hB2).setCell (p := ⟨q, 2, none⟩) hB (.bool true)).setCell (p := ⟨q, 1, none⟩) hB (.int .i64 (on : Nat))
            have bc := bq.alloc (Nat.le_trans hB2 (Nat.le_trans b1.size (by simp [World.setCell]))) (.cells #[.int .i64 2, .int .u32 (on : Nat), .bool false] 81)
            have kc := ((Kp.below (q := q) (g := g) b1).trans D2).trans (Kp.below ((Below.refl _ _).alloc (Nat.le_refl _) (.cells #[.int .i64 2, .int .u32 (on : Nat), .bool false] 81)))
            have HR3 := Lib.hid R3
            have HBC := Lib.hid bc
            have HKC := Lib.hid kc
            clear b1 R1 bc R3 kc bq D1 D2
            go_wp2_with fail
            go_returns
            exact StepP.good HX2.out.symm HBC.out HKC.out HR3.out
        · have q2 : (ok != 2) = true := by rw [bne_iff_ne]; exact hk
          rw [if_pos hk] at hX2
          subst hX2
          clear HX ho hk hh
          go_enter Tryz.func20, Tryz.ntmps20
          go_wp2_with fail
          refine HKO.out.mono ?_
          rintro e w1 ⟨rfl, b1⟩
          have bc := fun o => b1.alloc b1.size o
          clear b1
          go_wp2_with fail
          go_returns
          exact StepP.bad rfl 1 (by decide) ((bc _).mono hB2) (Kp.below (bc _))
end Go.Proofs.YtknonabeagbjeaaGreatDoor
