/- Layer 12, the document's: put, of any line that the seed's shapes take. -/
/- Layer 12, the document's: a whole text without labels read, walked. -/
import Derived.Test.YthfdjfgmgoafnaaDoorAg
namespace Go.Proofs.YthfdjfgmgoafnaaDoor
open Go.RowKit

theorem fieldsA_cons {s : UInt8} {sh : List UInt8} {ags : List (List UInt8)} {f : List Nat} (h : fieldsA (s :: sh) ags = some f) :
    ∃ a r n g, ags = a :: r ∧ f = n :: g ∧ (if s = 114 then regA a else numA a) = some n ∧ fieldsA sh r = some g := by
  cases ags with
  | nil => cases h
  | cons a r =>
    unfold fieldsA at h
    split at h
    · rename_i x xs h1 h2
      injection h with h
      exact ⟨a, r, x, xs, rfl, h.symm, h1, h2⟩
    · cases h
theorem fieldsA_nil {ags : List (List UInt8)} {f : List Nat} (h : fieldsA [] ags = some f) : ags = [] ∧ f = [] := by
  cases ags with
  | nil => injection h with h; exact ⟨rfl, h.symm⟩
  | cons a r => cases h
theorem wordA_some {o : List UInt8} {ags : List (List UInt8)} {x : UInt32} (h : wordA o ags = some x) :
    ∃ sh f, shapeA o = some sh ∧ fieldsA sh ags = some f ∧ rightI (opI o) (abcA sh f).1 (abcA sh f).2.1 (abcA sh f).2.2 = true ∧ (x.toNat : Int) = encI (opI o) (abcA sh f).1 (abcA sh f).2.1 (abcA sh f).2.2 := by
  unfold wordA at h
  split at h
  · cases h
  · rename_i sh h1
    split at h
    · cases h
    · rename_i f h2
      simp only at h
      split at h
      · rename_i h3
        injection h with h
        refine ⟨sh, f, h1, h2, h3, ?_⟩
        obtain ⟨⟨o1, o2⟩, ⟨a1, a2⟩, ⟨b1, b2⟩, ⟨c1, c2⟩⟩ := right_bounds h3
        rw [← h, UInt32.toNat_ofNat']
        unfold encI
        omega
      · cases h
theorem cell_of_sl {W : World} {ags : List (List UInt8)} {b off : Nat} (hc : ∀ i u, (ags.map sv)[i]? = some u → W.cell? ⟨b, off + i, none⟩ = some u) (i : Nat) (a : List UInt8) (h : ags[i]? = some a) : W.cell? ⟨b, off + i, none⟩ = some (.string ⟨a.toArray⟩) :=
  hc i _ (by rw [List.getElem?_map, h]; rfl)

set_option maxHeartbeats 1000000 in
theorem ref12_put (ob : ByteArray) (ags : List (List UInt8)) (q c : Nat) (line : Int) (L : Option Addr) (code : List UInt32) (A : Option Addr) (k : Nat) (x : UInt32) (W : World) (hw : wordA ob.data.toList ags = some x) (hS : Sl W W.heap.size L ags.length (ags.map sv)) (hM : Md q code A k W) (hc : code.length ≤ 1000) :
    Calls Tryd.prog 21 #[.pointer (some ⟨q, 0, none⟩), .string ob, .slice L ags.length c, .int .i64 line] W fun e w' => e = .returned (.int .i64 0) ∧ (∃ A' k', Md q (code ++ [x]) A' k' w') ∧ Below q W w' ∧ Lib.OthersKept 47 (some q) W w' := by
  obtain ⟨sh, f, h1, h2, h3, h4⟩ := wordA_some hw
  have hsh : ∀ W, Calls Tryd.prog 36 #[.string ob] W fun e w' => e = .returned (.string ⟨sh.toArray⟩) ∧ w' = W := fun W => by
    have h := ref12_Shape ob.data.toList sh W h1
    rwa [← ba_eq (rfl : ob.data.toList = _)] at h
  have hn : (ob.toList == [46, 100, 97, 116, 97]) = false ∧ (ob.toList == [46, 119, 111, 114, 100]) = false := by
    rw [Lib.toList_data]
    rcases shapeA_some h1 with ⟨e | e | e, -⟩ | ⟨e, -⟩ | ⟨e | e, -⟩ | ⟨e, -⟩ | ⟨e | e | e | e | e | e, -⟩ <;> rw [e] <;> decide
  have hX := hS.2
  rcases shapeA_some h1 with ⟨-, rfl⟩ | ⟨-, rfl⟩ | ⟨-, rfl⟩ | ⟨-, rfl⟩ | ⟨-, rfl⟩
  · obtain ⟨a0, r0, n0, g0, rfl, rfl, e0, h5⟩ := fieldsA_cons h2
    obtain ⟨a1, r1, n1, g1, rfl, rfl, e1, h6⟩ := fieldsA_cons h5
    obtain ⟨rfl, rfl⟩ := fieldsA_nil h6
    rw [if_pos rfl] at e0
    rw [if_neg (by decide)] at e1
    obtain ⟨b, off, rfl, hlt, hcell⟩ := hX (by simp)
    have c0 := cell_of_sl hcell 0 a0 rfl
    have c1 := cell_of_sl hcell 1 a1 rfl
    exact put_rn ob ⟨a0.toArray⟩ ⟨a1.toArray⟩ n0 n1 q b off c line code A k _ x W hsh (Lib.hid rfl) hn.1 hn.2 e0 e1 h3 (Lib.hid h4) hM hc hlt c0 c1
  · obtain ⟨a0, r0, n0, g0, rfl, rfl, e0, h5⟩ := fieldsA_cons h2
    obtain ⟨rfl, rfl⟩ := fieldsA_nil h5
    rw [if_neg (by decide)] at e0
    obtain ⟨b, off, rfl, hlt, hcell⟩ := hX (by simp)
    have c0 := cell_of_sl hcell 0 a0 rfl
    exact put_n ob ⟨a0.toArray⟩ n0 q b off c line code A k _ x W hsh (Lib.hid rfl) hn.1 hn.2 e0 h3 (Lib.hid h4) hM hc hlt c0
  · obtain ⟨a0, r0, n0, g0, rfl, rfl, e0, h5⟩ := fieldsA_cons h2
    obtain ⟨rfl, rfl⟩ := fieldsA_nil h5
    rw [if_pos rfl] at e0
    obtain ⟨b, off, rfl, hlt, hcell⟩ := hX (by simp)
    have c0 := cell_of_sl hcell 0 a0 rfl
    exact put_r ob ⟨a0.toArray⟩ n0 q b off c line code A k _ x W hsh (Lib.hid rfl) hn.1 hn.2 e0 h3 (Lib.hid h4) hM hc hlt c0
  · obtain ⟨rfl, rfl⟩ := fieldsA_nil h2
    exact put_h ob q c line code A L k _ x W hsh (Lib.hid rfl) hn.1 hn.2 h3 (Lib.hid h4) hM hc
  · obtain ⟨a0, r0, n0, g0, rfl, rfl, e0, h5⟩ := fieldsA_cons h2
    obtain ⟨a1, r1, n1, g1, rfl, rfl, e1, h6⟩ := fieldsA_cons h5
    obtain ⟨a2, r2, n2, g2, rfl, rfl, e2, h7⟩ := fieldsA_cons h6
    obtain ⟨rfl, rfl⟩ := fieldsA_nil h7
    rw [if_pos rfl] at e0 e1 e2
    obtain ⟨b, off, rfl, hlt, hcell⟩ := hX (by simp)
    have c0 := cell_of_sl hcell 0 a0 rfl
    have c1 := cell_of_sl hcell 1 a1 rfl
    have c2 := cell_of_sl hcell 2 a2 rfl
    exact put_rrr ob ⟨a0.toArray⟩ ⟨a1.toArray⟩ ⟨a2.toArray⟩ n0 n1 n2 q b off c line code A k _ x W hsh (Lib.hid rfl) hn.1 hn.2 e0 e1 e2 h3 (Lib.hid h4) hM hc hlt c0 c1 c2
end Go.Proofs.YthfdjfgmgoafnaaDoor
namespace Go.Proofs.YthfdjfgmgoafnaaDoor
open Go.RowKit

/-- The code of a text's lines, where none has a label or uses one. -/
def codeA12 : List (List UInt8) → Option (List UInt32)
  | [] => some []
  | l :: ls => match lineA l with
    | none => none
    | some (o, ags) => if o = [] then codeA12 ls else match wordA o ags, codeA12 ls with
      | some x, some r => some (x :: r)
      | _, _ => none
theorem codeA12_cons {l : List UInt8} {ls : List (List UInt8)} {C : List UInt32} (h : codeA12 (l :: ls) = some C) :
    ∃ o ags, lineA l = some (o, ags) ∧ ((o = [] ∧ codeA12 ls = some C) ∨ (o ≠ [] ∧ ∃ x r, wordA o ags = some x ∧ codeA12 ls = some r ∧ C = x :: r)) := by
  unfold codeA12 at h
  split at h
  · cases h
  · rename_i o ags h1
    refine ⟨o, ags, h1, ?_⟩
    split at h
    · rename_i h2
      exact .inl ⟨h2, h⟩
    · rename_i h2
      split at h
      · rename_i x r h3 h4
        injection h with h
        exact .inr ⟨h2, x, r, h3, h4, h.symm⟩
      · cases h
theorem own_kept {w w' : World} {B E E' q sz n : Nat} {v : Value} {xs : List Value} (h : w.ownsRow B E sz v n xs) (hO : Lib.OthersKept E' (some q) w w') (hne : E ≠ E') (hq : q < B) : w'.ownsRow B E sz v n xs := by
  refine ⟨h.1, ?_⟩
  rcases h.2 with h2 | ⟨g, cap, cur, hv, hg, hh, r⟩
  · exact .inl h2
  · exact .inr ⟨g, cap, cur, hv, hg, hO g _ hh (fun e => by injection e with e; omega) (fun c fz e => by injection e with _ e _; exact hne e), r⟩
theorem blk_kept {w w' : World} {E' q g : Nat} {t : TypeId} {cs : Array Value} (h : Blk w g t cs) (hO : Lib.OthersKept E' (some q) w w') (hne : t ≠ E') (hq : g ≠ q) : Blk w' g t cs :=
  hO g _ h (fun e => hq (by injection e)) (fun c fz e => by injection e with _ e _; exact hne e)

/-- The state between two lines. -/
structure Ra (w : World) (q : Nat) (ls : List (List UInt8)) (L : Option Addr) (c : Nat) (code : List UInt32) (A : Option Addr) (k : Nat) (W : World) : Prop where
  m : Md q code A k W
  row : W.ownsRow (q + 1) 9 1 (.slice L ls.length c) ls.length (ls.map sv)
  res : Blk W w.heap.size 25 #[.slice none 0 0, .int .i64 0]
  bel : Below w.heap.size w W
  hq : w.heap.size < q
section
variable {w W W' : World} {q : Nat} {ls : List (List UInt8)} {L : Option Addr} {c : Nat} {code code' : List UInt32} {A A' : Option Addr} {k k' : Nat}
theorem Ra.below (h : Ra w q ls L c code A k W) (hb : Below W.heap.size W W') : Ra w q ls L c code A k W' :=
  ⟨h.m.below hb, own_below h.row rfl hb, h.res.below hb h.res.lt, h.bel.trans (hb.mono h.bel.size), h.hq⟩
theorem Ra.put (h : Ra w q ls L c code A k W) (hm : Md q code' A' k' W') (hb : Below q W W') (hO : Lib.OthersKept 47 (some q) W W') : Ra w q ls L c code' A' k' W' :=
  ⟨hm, own_kept h.row hO (by decide) (Nat.lt_succ_self _), blk_kept h.res hO (by decide) (Nat.ne_of_lt h.hq), h.bel.trans (hb.mono (Nat.le_of_lt h.hq)), h.hq⟩
end

theorem linesN_len : ∀ f (l : List UInt8), (linesN f l).length ≤ f
  | 0, _ => Nat.le_refl _
  | f + 1, l => by
    unfold linesN
    split
    · simp
    · have := linesN_len f (l.drop (findL 10 l + 1))
      simp
      omega
theorem linesN_mem : ∀ f (l : List UInt8) x, x ∈ linesN f l → x.length ≤ l.length
  | 0, _, _, h => by cases h
  | f + 1, l, x, h => by
    unfold linesN at h
    split at h
    · rw [List.mem_singleton] at h
      rw [h]
      exact Nat.le_refl _
    · rcases List.mem_cons.1 h with rfl | h
      · rw [List.length_take]; omega
      · have := linesN_mem f _ x h
        rw [List.length_drop] at this
        omega

set_option maxRecDepth 100000 in
set_option maxHeartbeats 2000000 in
theorem ref12_Read (t : ByteArray) (C : List UInt32) (w : World) (ht : t.size ≤ 20000) (hC : codeA12 (linesN (t.size + 1) t.data.toList) = some C) (hl : C.length ≤ 1000) :
    Calls Tryd.prog 5 #[.string t] w fun e w' => (∃ A k, e = .returned (.tuple #[.agg #[.slice A C.length k, .int .i64 0], .int .i64 0, .int .i64 0]) ∧ Sl w' w'.heap.size A C.length (C.map wv)) ∧ Below w.heap.size w w' := by
  have htI : (t.size : Int) ≤ 20000 := by omega
  have KL := Lib.hid ref12_Lines
  have KN := Lib.hid ref12_Line
  have KP := Lib.hid ref12_put
  obtain ⟨ls, hls⟩ : ∃ ls, linesN (t.size + 1) t.data.toList = ls := ⟨_, rfl⟩
  rw [hls] at hC
  have HL := Lib.hid hls
  have HC := Lib.hid hC
  clear hls hC
  go_enter Tryd.func5, Tryd.ntmps5
  go_wp2_with fail
  refine (KL.out t _ (by omega)).mono ?_
  rw [HL.out]
  have M0 : Md (w.heap.size + 1) [] none 0 ((w.alloc (Obj.cells #[.slice none 0 0, .int .i64 0] 25)).alloc (Obj.cells #[.slice none 0 0, .int .i64 0, .slice none 0 0, .slice none 0 0, .slice none 0 0, .bool false] 57)) :=
    ⟨by have h := Blk.new (w.alloc (Obj.cells #[.slice none 0 0, .int .i64 0] 25)) 57 #[.slice none 0 0, .int .i64 0, .slice none 0 0, .slice none 0 0, .slice none 0 0, .bool false]; rw [World.size_alloc] at h; exact h, World.ownsRow_nil _ _ _ _⟩
  have R0 := (Blk.new w 25 #[.slice none 0 0, .int .i64 0]).alloc (Obj.cells #[.slice none 0 0, .int .i64 0, .slice none 0 0, .slice none 0 0, .slice none 0 0, .bool false] 57)
  have b0 := below_two' w (Obj.cells #[.slice none 0 0, .int .i64 0] 25) (Obj.cells #[.slice none 0 0, .int .i64 0, .slice none 0 0, .slice none 0 0, .slice none 0 0, .bool false] 57)
  have hz0 : ((w.alloc (Obj.cells #[.slice none 0 0, .int .i64 0] 25)).alloc (Obj.cells #[.slice none 0 0, .int .i64 0, .slice none 0 0, .slice none 0 0, .slice none 0 0, .bool false] 57)).heap.size = w.heap.size + 2 := by simp
  generalize World.alloc (World.alloc _ _) _ = V at M0 R0 b0 hz0 ⊢
  rintro e w1 ⟨⟨L, c, rfl, hrow⟩, hb1⟩
  have S0 : Ra w (w.heap.size + 1) ls L c [] none 0 w1 := ⟨M0.below hb1, own_base hrow (by omega), R0.below hb1 R0.lt, b0.trans (hb1.mono b0.size), Nat.lt_succ_self _⟩
  have H0 := Lib.hid S0
  have hln : ls.length < 1000000 := by have := linesN_len (t.size + 1) t.data.toList; rw [HL.out] at this; omega
  have hlm : ∀ x, x ∈ ls → x.length ≤ 100000 := fun x hx => by
    rw [← HL.out] at hx
    have h1 := linesN_mem _ _ x hx
    have h2 := size_len t
    omega
  have HLM := Lib.hid hlm
  clear S0 M0 R0 b0 hz0 hrow hb1 HL hlm
  go_wp2_with fail
  go_loopw [7] (fun iv wr => ∃ (i : Nat) (done rest : List UInt32) (A : Option Addr) (k : Nat), i ≤ ls.length ∧ iv = .int .i64 i ∧ Hid (codeA12 (ls.drop i) = some rest) ∧ Hid (C = done ++ rest) ∧ Hid (Ra w (w.heap.size + 1) ls L c done A k wr)) (fun iv _ => ls.length - (intOf iv).toNat)
  case atStart => exact ⟨0, [], C, none, 0, Nat.zero_le _, rfl, HC, Lib.hid rfl, H0⟩
  case round =>
    clear H0 HC
    obtain ⟨i, done, rest, A, k, hi, rfl, HC, HD, HR⟩ := hrel
    have hdl : done.length ≤ 1000 := by have := HD.out; rw [this, List.length_append] at hl; omega
    by_cases hlt : i < ls.length
    · have hiI : (i : Int) < ls.length := by omega
      have hi0 : (0 : Int) ≤ i := by omega
      have hlI : (ls.length : Int) < 1000000 := by omega
      obtain ⟨g, c2, hv, -, hgl, -⟩ := own_form HR.out.row (by omega)
      cases hv
      have hc0 := own_cell HR.out.row (k := i) (u := sv ls[i]) (by rw [List.getElem?_map, List.getElem?_eq_getElem hlt]; rfl)
      have hdrop : ls.drop i = ls[i] :: ls.drop (i + 1) := List.drop_eq_getElem_cons hlt
      have hC := HC.out
      rw [hdrop] at hC
      obtain ⟨o, ags, e1, e2⟩ := codeA12_cons hC
      have hsz : ls[i].length ≤ 100000 := HLM.out _ (List.getElem_mem hlt)
      obtain ⟨s, hs⟩ : ∃ s : ByteArray, (⟨ls[i].toArray⟩ : ByteArray) = s := ⟨_, rfl⟩
      have hsl : s.data.toList = ls[i] := by rw [← hs]
      have hss : s.size ≤ 100000 := by have : s.data.toList.length = s.size := rfl; rw [hsl] at this; omega
      unfold sv at hc0
      rw [hs] at hc0
      rw [← hsl] at e1
      have KU := Lib.hid (fun W => KN.out s o ags W hss e1)
      clear hdrop hC e1 hs hsl hss HC
      go_wp2_with fail
      refine (KU.out _).mono ?_
      rintro e w2 ⟨⟨ob, L2, c2, rfl, hob, hS2, -⟩, hb2⟩
      have R2 := Lib.hid (HR.out.below hb2)
      have HS2 := Lib.hid hS2
      clear hb2 hc0 hS2
      rcases e2 with ⟨rfl, e3⟩ | ⟨e3, x, r, e4, e5, rfl⟩
      · obtain rfl := empty_of hob.out
        have HC2 := Lib.hid e3
        clear e3
        go_wp2_with fail
        go_roundw
        case rel => exact ⟨i + 1, done, rest, A, k, hlt, by simp, HC2, HD, R2⟩
        case measure => simp [intOf]; omega
      · obtain ⟨ne1, ne2⟩ := ne_nil ob (pos_of (by rw [hob.out]; exact e3))
        have HC2 := Lib.hid e5
        have HD2 : Hid (C = (done ++ [x]) ++ r) := Lib.hid (by rw [HD.out, List.append_assoc]; rfl)
        rw [← hob.out] at e4
        have KV := Lib.hid (fun line c => KP.out ob ags (w.heap.size + 1) c line L2 done A k x w2 e4 HS2.out R2.out.m hdl)
        clear e3 e4 e5
        go_wp2_with fail
        refine (KV.out _ _).mono ?_
        rintro e w3 ⟨rfl, ⟨A3, k3, hm3⟩, hb3, hO3⟩
        have R3 := Lib.hid (R2.out.put hm3 hb3 hO3)
        clear hm3 hb3 hO3
        go_wp2_with fail
        go_roundw
        case rel => exact ⟨i + 1, done ++ [x], r, A3, k3, hlt, by simp, HC2, HD2, R3⟩
        case measure => simp [intOf]; omega
    · obtain rfl : i = ls.length := by omega
      have hC := HC.out
      rw [List.drop_length] at hC
      injection hC with hC
      subst hC
      have hD := HD.out
      rw [List.append_nil] at hD
      subst hD
      obtain ⟨m0, -, m4, -, -⟩ := HR.out.m.all
      have m1 : wr.cell? ⟨w.heap.size + 1, 1, none⟩ = some (.int .i64 0) := HR.out.m.m.cell 1
      have r0 : wr.frozen? ⟨w.heap.size, 0, none⟩ = false := HR.out.res.frozen 0
      have r1 : wr.frozen? ⟨w.heap.size, 1, none⟩ = false := HR.out.res.frozen 1
      have r2 : wr.cell? ⟨w.heap.size, 0, none⟩ = some (.slice none 0 0) := HR.out.res.cell 0
      have r3 : wr.cell? ⟨w.heap.size, 1, none⟩ = some (.int .i64 0) := HR.out.res.cell 1
      clear HD HC
      go_wp2_with fail
      refine wp_loop_rounds 1 ?_
      rw [rounds_succ]
      go_wp2_with fail
      have hbel := (HR.out.bel.setCell (p := ⟨w.heap.size, 0, none⟩) (Nat.le_refl _) (.slice A C.length k)).setCell (p := ⟨w.heap.size, 1, none⟩) (Nat.le_refl _) (.int .i64 0)
      obtain ⟨c0, c1⟩ := two_cells (.slice A C.length k) (.int .i64 0) r2 r3
      have hown := own_far (u := .int .i64 0) (i := 1) (own_far (u := .slice A C.length k) (i := 0) HR.out.m.own HR.out.res (by decide)) (HR.out.res.set 0 _) (by decide)
      obtain ⟨A', c', hv, -, -, hS⟩ := Sl.of_own hown
      cases hv
      refine bodyPost_ret (by simp [results, Tryd.results5, go_sem, c0, c1]; try rfl) rfl ?_
      exact ⟨⟨A, k, rfl, hS⟩, hbel⟩
end Go.Proofs.YthfdjfgmgoafnaaDoor
