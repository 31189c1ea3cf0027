/- Layer 50: Noted, and the seed's source; walked. -/
/- Layer 50: the seed's source, walked. -/
/- The law SeedText, walked. -/
import Derived.Deep.RegionHeld3
import Derived.Test.YthfdjfgmgoafnaaDoorAq
namespace Go.Proofs.YthfdjfgmgoafnaaDoor
open Go.RowKit

set_option maxHeartbeats 2000000 in
theorem ref50_Noted (t : ByteArray) (w : World) (ht : t.size ≤ 100000) (h : t.data.toList.foldl nstep (true, true, true) = (true, true, true)) :
    Calls Tryd.prog 11 #[.string t] w fun e w' => e = .returned (.bool true) ∧ w' = w := by
  have HT := Lib.hid (nst_take h rfl)
  have HE := Lib.hid h
  have HF := Lib.hid (nst_first t.data.toList)
  clear h
  go_enter Tryd.func11, Tryd.ntmps11
  go_wp2_with fail
  go_loopw [3, 4] (fun nv iv wr => ∃ (i : Nat) (n : Bool), i ≤ t.size ∧ nv = .bool n ∧ iv = .int .i64 i ∧ Hid (∃ f, (t.data.toList.take i).foldl nstep (true, true, true) = (true, f, n)) ∧ wr = w) (fun _ iv _ => t.size - (intOf iv).toNat)
  case atStart => exact ⟨0, true, Nat.zero_le _, rfl, rfl, Lib.hid ⟨true, rfl⟩, rfl⟩
  case round =>
    obtain ⟨i, n, hi, rfl, rfl, HS, hw⟩ := hrel
    subst wr
    by_cases hlt : i < t.size
    · have hiI : (i : Int) < t.size := by omega
      have hi0 : (0 : Int) ≤ i := by omega
      have hsI : (t.size : Int) ≤ 100000 := by omega
      obtain ⟨f, hf⟩ := HS.out
      have hnext : (t.data.toList.take (i + 1)).foldl nstep (true, true, true) = nstep (true, f, n) (t[i]'hlt) := by
        rw [List.take_succ_eq_append_getElem (show i < t.data.toList.length from hlt), List.foldl_append, hf]
        rfl
      have hok := HT.out (i + 1)
      rw [hnext] at hok
      unfold nstep at hok hnext
      obtain ⟨x, hx⟩ : ∃ x, t[i]'hlt = x := ⟨_, rfl⟩
      rw [hx] at hok hnext
      by_cases h1 : x = 35
      · have q1 : ((x.toNat : Int) == 35) = true := by rw [h1]; rfl
        rw [if_pos h1] at hnext
        have HN := Lib.hid hnext
        clear hf hok hnext h1 HS
        go_wp2_with fail
        go_roundw
        case rel => exact ⟨i + 1, true, hlt, rfl, by simp, Lib.hid ⟨_, HN.out⟩, trivial⟩
        case measure => simp [intOf]; omega
      · have q1 : ((x.toNat : Int) == 35) = false := by
          rw [beq_eq_false_iff_ne]
          intro e
          exact h1 (UInt8.toNat_inj.1 (by rw [show (35 : UInt8).toNat = 35 from rfl]; omega))
        rw [if_neg h1] at hnext hok
        by_cases h2 : x = 10
        · have q2 : ((x.toNat : Int) == 10) = true := by rw [h2]; rfl
          rw [if_pos h2] at hnext hok
          obtain rfl : n = true := by simpa using hok
          have HN := Lib.hid hnext
          clear hf hok hnext h1 h2 HS
          go_wp2_with fail
          go_roundw
          case rel => exact ⟨i + 1, true, hlt, rfl, by simp, Lib.hid ⟨_, HN.out⟩, trivial⟩
          case measure => simp [intOf]; omega
        · have q2 : ((x.toNat : Int) == 10) = false := by
            rw [beq_eq_false_iff_ne]
            intro e
            exact h2 (UInt8.toNat_inj.1 (by rw [show (10 : UInt8).toNat = 10 from rfl]; omega))
          rw [if_neg h2] at hnext
          rcases Nat.eq_zero_or_pos i with h0 | h0
          · subst h0
            have hf2 : f = true := by injection hf with _ hf; injection hf with hf _; exact hf.symm
            subst hf2
            have HN := Lib.hid hnext
            clear hf hok hnext h1 h2 HS
            go_wp2_with fail
            go_roundw
            case rel => exact ⟨0 + 1, false, hlt, rfl, by simp, Lib.hid ⟨_, HN.out⟩, trivial⟩
            case measure => simp [intOf]; omega
          · have q3 : ((i : Int) == 0) = false := by rw [beq_eq_false_iff_ne]; omega
            have hm : i - 1 < t.size := by omega
            have hfi := HF.out (i - 1) hm
            rw [show i - 1 + 1 = i by omega, hf] at hfi
            have hn1 : ((i : Int) - 1).toNat = i - 1 := by omega
            have hn0 : (0 : Int) ≤ (i : Int) - 1 := by omega
            have hn0' : (1 : Int) ≤ (i : Int) := by omega
            have hn2 : (i : Int) - 1 < t.size := by omega
            have hfi2 : f = decide ((t[i - 1]'hm) = 10) := hfi
            by_cases h3 : (t[i - 1]'hm) = 10
            · have q4 : (((t[i - 1]'hm).toNat : Int) == 10) = true := by rw [h3]; rfl
              rw [decide_eq_true h3] at hfi2
              subst hfi2
              have HN := Lib.hid hnext
              clear hf hok hnext h1 h2 HS hfi h3
              go_wp2_with fail
              go_roundw
              case rel => exact ⟨i + 1, false, hlt, rfl, by simp, Lib.hid ⟨_, HN.out⟩, trivial⟩
              case measure => simp [intOf]; omega
            · have q4 : (((t[i - 1]'hm).toNat : Int) == 10) = false := by
                rw [beq_eq_false_iff_ne]
                intro e
                exact h3 (UInt8.toNat_inj.1 (by rw [show (10 : UInt8).toNat = 10 from rfl]; omega))
              rw [decide_eq_false h3] at hfi2
              subst hfi2
              have HN := Lib.hid hnext
              clear hf hok hnext h1 h2 HS hfi h3
              go_wp2_with fail
              go_roundw
              case rel => exact ⟨i + 1, n, hlt, rfl, by simp, Lib.hid ⟨_, HN.out⟩, trivial⟩
              case measure => simp [intOf]; omega
    · obtain rfl : i = t.size := by omega
      obtain ⟨f, hf⟩ := HS.out
      rw [List.take_of_length_le (show t.data.toList.length ≤ t.size from Nat.le_refl _), HE.out] at hf
      injection hf with _ hf
      injection hf with _ hf
      subst hf
      clear HS
      go_wp2_with fail
      go_returns
      exact ⟨rfl, rfl⟩
end Go.Proofs.YthfdjfgmgoafnaaDoor
namespace Go.Proofs.YthfdjfgmgoafnaaDoor
open Go.RowKit

/-- The builder in block q, the code's block ahead of it, the step's box in block x. -/
structure Sx (w : World) (q x : Nat) (cs : Array Value) (l : List UInt8) (W : World) : Prop where
  c : Blk W (w.heap.size + 1) 51 codeA
  b : Blk W x 51 cs
  bd : Bd q q l W
  bel : Below w.heap.size w W
  qq : q = w.heap.size
  qx : q < x
  pw : Pow10 W
section
variable {w W W' : World} {q x : Nat} {cs : Array Value} {l l' : List UInt8}
theorem Sx.below (h : Sx w q x cs l W) {B : Nat} (hB : B = W.heap.size) (hb : Below B W W') : Sx w q x cs l W' := by
  subst hB
  exact ⟨h.c.below hb h.c.lt, h.b.below hb h.b.lt, bd_below h.bd rfl hb, h.bel.trans (hb.mono h.bel.size), h.qq, h.qx, h.pw.below hb⟩
theorem Sx.drew (h : Sx w q x cs l W) : Sx w q x cs l W.drew := h.below rfl (Below.refl _ W).drew
theorem Sx.alloc (h : Sx w q x cs l W) (o : Obj) : Sx w q x cs l (W.alloc o) := h.below rfl ((Below.refl _ W).alloc (Nat.le_refl _) o)
theorem Sx.put (h : Sx w q x cs l W) (hw : Pow10 w) (B' : Bd q q l' W') (hb : Below q W W') (hO : Lib.OthersKept 5 (some q) W W') : Sx w q x cs l' W' :=
  ⟨blk_kept h.c hO (by decide) (by have := h.qq; omega), blk_kept h.b hO (by decide) (by have := h.qx; omega), B', h.bel.trans (hb.mono (Nat.le_of_eq h.qq.symm)), h.qq, h.qx, hw.below (h.bel.trans (hb.mono (Nat.le_of_eq h.qq.symm)))⟩
theorem Sx.at (h : Sx w q x cs l W) (i : Nat) : W.cell? ⟨x, i, none⟩ = cs[i]? := h.b.cell i
theorem Sx.box (h : Sx w q x cs l W) (cs' : Array Value) : Sx w q W.heap.size cs' l (W.alloc (.cells cs' 51)) :=
  ⟨h.c.alloc _, Blk.new W _ cs', (h.alloc _).bd, (h.alloc _).bel, h.qq, Nat.lt_trans h.qx h.b.lt, (h.alloc _).pw⟩
theorem Sx.back (h : Sx w q x cs l W) : Sx w q (w.heap.size + 1) codeA l W := ⟨h.c, h.c, h.bd, h.bel, h.qq, by have := h.qq; omega, h.pw⟩
end
def Sy (w : World) (q x : Nat) (cs : Array Value) (W : World) : Prop := ∃ l, Sx w q x cs l W
section
variable {w W : World} {q x : Nat} {cs : Array Value} {l : List UInt8}
theorem Sy.drew (h : Sy w q x cs W) : Sy w q x cs W.drew := h.elim fun _ k => ⟨_, k.drew⟩
theorem Sy.of (h : Sx w q x cs l W) : Sy w q x cs W := ⟨_, h⟩
theorem Sy.all {v0 v1 v2 v3 v4 : Value} (h : Sy w q x #[v0, v1, v2, v3, v4] W) : W.cell? ⟨x, 0, none⟩ = some v0 ∧ W.cell? ⟨x, 1, none⟩ = some v1 ∧ W.cell? ⟨x, 2, none⟩ = some v2 ∧ W.cell? ⟨x, 3, none⟩ = some v3 ∧ W.cell? ⟨x, 4, none⟩ = some v4 ∧ Sy w q x #[v0, v1, v2, v3, v4] W :=
  h.elim fun _ k => ⟨k.b.cell 0, k.b.cell 1, k.b.cell 2, k.b.cell 3, k.b.cell 4, h⟩
end
theorem src_len34 (j : Nat) (h : j ≤ 34) : (srcL j).length ≤ 3434 := by have := src_len j h; omega
theorem ln_size {j : Nat} (hj : j < 34) {op a b c : Nat} (h : seedP[j]? = some (op, a, b, c)) : (textB op a b c).size ≤ 100 := by
  obtain ⟨_, _, _, _, _, _, k⟩ := okL_some (ok_l j hj)
  have e := ins_text hj h
  have e2 : (textB op a b c).data.toList.length = (textB op a b c).size := rfl
  rw [← e2, e]
  unfold lnC at k
  rw [List.length_append, List.length_append] at k
  omega

set_option maxRecDepth 100000 in
set_option maxHeartbeats 4000000 in
theorem seed_Source (w : World) (hp : Pow10 w) :
    Calls Tryd.prog 6 #[] w fun e w' => (∃ t, e = .returned (.string t) ∧ Hid (t.data.toList = srcL 34)) ∧ Below w.heap.size w w' := by
  have K0 := Lib.hid seed_code
  have KI := Lib.hid inst_Text
  go_enter Tryd.func6, Tryd.ntmps6
  go_wp2_with fail
  refine (K0.out _).mono ?_
  rintro e w0 ⟨rfl, rfl⟩
  have hC : Blk ((w.alloc (.cells #[.pointer none, .slice none 0 0] 40)).alloc (.cells codeA 51)) (w.heap.size + 1) 51 codeA := by
    have h := Blk.new (w.alloc (.cells #[.pointer none, .slice none 0 0] 40)) 51 codeA
    rw [World.size_alloc] at h
    exact h
  have hB := bd_below (bd_fresh w) rfl ((Below.refl _ _).alloc (Nat.le_refl _) (.cells codeA 51))
  have hb := below_two' w (.cells #[.pointer none, .slice none 0 0] 40) (.cells codeA 51)
  have T0 : Sx w w.heap.size (w.heap.size + 1) codeA (srcL 0) _ := ⟨hC, hC, hB, hb, rfl, Nat.lt_succ_self _, hp.below hb⟩
  rw [World.size_alloc]
  generalize World.alloc (World.alloc _ _) _ = V at T0 ⊢
  have H0 := Lib.hid T0
  clear T0 hC hB hb
  go_wp2_with fail
  go_loopw [6] (fun i wr => ∃ j : Nat, j ≤ 34 ∧ i = .int .i64 j ∧ Hid (Sx w w.heap.size (w.heap.size + 1) codeA (srcL j) wr)) (fun i _ => 34 - (intOf i).toNat)
  case atStart => exact ⟨0, Nat.zero_le _, rfl, H0⟩
  case round =>
    clear H0
    obtain ⟨j, hj, rfl, H⟩ := hrel
    by_cases hlt : j < 34
    · obtain ⟨op, a, b, c, s, hq, x0, x1, x2, x3, x4, xn⟩ := code_at j hlt
      have ht := ln_size hlt hq
      have htl := ins_text hlt hq
      have hln := okL_some (ok_l j hlt)
      have hns := note_len j hlt
      have hnd : noteL.getD j ⟨#[]⟩ = s := by rw [List.getD_eq_getElem?_getD, xn]; rfl
      rw [hnd] at hns
      obtain ⟨T, hT⟩ : ∃ T, textB op a b c = T := ⟨_, rfl⟩
      have KT := Lib.hid (fun W (h : Pow10 W) => KI.out op a b c W h)
      rw [hT] at KT ht htl
      have hjI : (j : Int) < 34 := by omega
      have hj0 : (0 : Int) ≤ j := by omega
      have c0 := (H.out.c.cell (j * 5)).trans x0
      have c1 := (H.out.c.cell (j * 5 + 1)).trans x1
      have c2 := (H.out.c.cell (j * 5 + 2)).trans x2
      have c3 := (H.out.c.cell (j * 5 + 3)).trans x3
      have c4 := (H.out.c.cell (j * 5 + 4)).trans x4
      have q1 : ¬ 9223372036854775807 < T.size + 3 := by omega
      have q2 : ¬ 9223372036854775807 < T.size + 3 + s.size := by omega
      have q3 : ¬ 9223372036854775807 < T.size + 3 + s.size + 1 := by omega
      have z2 : (T ++ (⟨#[32, 35, 32]⟩ : ByteArray) ++ s).size = T.size + 3 + s.size := by rw [ByteArray.size_append, ByteArray.size_append]; rfl
      have HR : Hid (srcL j ++ (T ++ (⟨#[32, 35, 32]⟩ : ByteArray) ++ s ++ (⟨#[10]⟩ : ByteArray)).data.toList = srcL (j + 1)) := by
        unfold Hid
        rw [ba_app, ba_app, ba_app, htl]
        show _ = srcL j ++ (lnC j ++ [10])
        unfold lnC
        rw [hnd]
      have HZ : Hid ((srcL j).length + (T ++ (⟨#[32, 35, 32]⟩ : ByteArray) ++ s ++ (⟨#[10]⟩ : ByteArray)).size ≤ 10000) := by
        unfold Hid
        rw [ByteArray.size_append, z2]
        have := src_len34 j hj
        show _ + (T.size + 3 + s.size + 1) ≤ 10000
        omega
      clear x0 x1 x2 x3 x4 xn hnd z2 htl hT hln hq
      go_wp2_with fail
      have T1 := H.out.box #[.int .i64 (op : Nat), .int .i64 (a : Nat), .int .i64 (b : Nat), .int .i64 (c : Nat), .string s]
      generalize World.alloc wr _ = V at T1 ⊢
      generalize wr.heap.size = X at T1 ⊢
      clear c0 c1 c2 c3 c4
      have T1H := Lib.hid T1
      go_region_held3 (fun W => W.cell? ⟨X, 0, none⟩ = some (.int .i64 (op : Nat)) ∧ W.cell? ⟨X, 1, none⟩ = some (.int .i64 (a : Nat)) ∧ W.cell? ⟨X, 2, none⟩ = some (.int .i64 (b : Nat)) ∧ W.cell? ⟨X, 3, none⟩ = some (.int .i64 (c : Nat)) ∧ W.cell? ⟨X, 4, none⟩ = some (.string s) ∧ Sy w w.heap.size X #[.int .i64 (op : Nat), .int .i64 (a : Nat), .int .i64 (b : Nat), .int .i64 (c : Nat), .string s] W)
        ((refine Sy.all ?_; repeat (first | assumption | (exact Sy.of (by assumption)) | (refine Sy.drew ?_))))
        ((first
          | (go_at_call 22; (with_reducible refine (KT.out _ ?_).mono ?_); (exact T1H.out.drew.pw); rintro e w2 ⟨rfl, hbe1⟩; have T2 := T1H.out.drew.below rfl hbe1)
          | (go_at_call 14; (with_reducible refine (Builder_WriteString w.heap.size w.heap.size (srcL j) _ w2 T2.bd ?_ T2.bel.size).mono ?_); (have k1 := HZ.out; omega); rintro e w4 ⟨rfl, B4, b4, o4⟩; have T4 := T2.put hp B4 b4 o4)))
      have T5 := T4.back
      rw [HR.out] at T5
      have H5 := Lib.hid T5
      clear T1 T2 T4 T5 B4 b4 o4 hbe1
      go_wp2_with fail
      go_roundw
      case rel => exact ⟨j + 1, hlt, by simp, H5⟩
      case measure => simp [intOf]; omega
    · obtain rfl : j = 34 := by omega
      go_wp2_with fail
      refine (Builder_String w.heap.size w.heap.size _ wr H.out.bd H.out.bel.size).mono ?_
      rintro e w2 ⟨rfl, -, b2, -⟩
      obtain ⟨T, hT2⟩ : ∃ T : ByteArray, (⟨(srcL 34).toArray⟩ : ByteArray) = T := ⟨_, rfl⟩
      have HTd : Hid (T.data.toList = srcL 34) := by unfold Hid; rw [← hT2]
      rw [hT2]
      clear hT2
      go_wp2_with fail
      go_returns
      exact ⟨⟨T, rfl, HTd⟩, H.out.bel.trans b2⟩
end Go.Proofs.YthfdjfgmgoafnaaDoor
namespace Go.Proofs.YthfdjfgmgoafnaaDoor
open Go.RowKit

theorem body_size {t : ByteArray} (h : t.data.toList = bodyL 34) : t.size ≤ 4000 := by
  have e : t.data.toList.length = t.size := rfl
  have k := body_len 34 (by decide)
  rw [← h] at k
  omega
set_option maxHeartbeats 2000000 in
theorem seedText_walk (w : World) (hT : Small w) (hp : Pow10 w) :
    Calls Tryd.prog 3 #[] w fun e w' => e = .returned (.bool true) ∧ Below w.heap.size w w' := by
  have KA := Lib.hid awake_any
  have KI := Lib.hid seed_Image
  have KT := Lib.hid seed_Text
  have KS := Lib.hid seed_Source
  have KL : Hid (∀ (t : ByteArray) (W : World), t.data.toList = bodyL 34 → Calls Tryd.prog 9 #[.string t] W fun e w' => (∃ s, e = .returned (.string s) ∧ Hid (s.data.toList = putI seedW 0)) ∧ Below W.heap.size W w') := by
    intro t W ht
    refine (ref_hexLoad t W (by have := body_size ht; omega)).mono ?_
    rintro e w' ⟨⟨s, rfl, hs⟩, hb⟩
    refine ⟨⟨s, rfl, ?_⟩, hb⟩
    unfold Hid
    rw [hs.out, ht, body_loads]
  have KR : Hid (∀ (t : ByteArray) (W : World), t.data.toList = srcL 34 → Calls Tryd.prog 5 #[.string t] W fun e w' => (∃ A k, e = .returned (.tuple #[.agg #[.slice A 34 k, .int .i64 0], .int .i64 0, .int .i64 0]) ∧ Sl w' w'.heap.size A 34 (seedW.map wv)) ∧ Below W.heap.size W w') := by
    intro t W ht
    have hz := src_len34 34 (Nat.le_refl _)
    have hs : t.size = (srcL 34).length := by rw [← ht]; rfl
    exact ref12_Read t seedW W (by omega) (by rw [ht]; exact src_code _ hs) (by rw [seedW_len]; decide)
  have KP := Lib.hid (fun A k W (h : Sl W W.heap.size A 34 (seedW.map wv)) => ref_Put A seedW k 0 W h (by decide))
  have KN := Lib.hid ref50_Noted
  go_enter Tryd.func3, Tryd.ntmps3
  go_wp2_with fail
  refine (KT.out _ hT).mono ?_
  rintro e w1 ⟨⟨t1, rfl, ht1⟩, b1⟩
  have hz : (t1.size : Int) ≤ 6000 := by have := body_size ht1.out; omega
  have hz2 := Lib.hid (body_size ht1.out)
  go_wp2_with fail
  refine (KS.out _ (hp.below b1)).mono ?_
  rintro e w2 ⟨⟨t2, rfl, ht2⟩, b2⟩
  have c2 := b1.trans (b2.mono b1.size)
  go_wp2_with fail
  refine (KR.out t2 _ ht2.out).mono ?_
  rintro e w3 ⟨⟨A, k, rfl, hS⟩, b3⟩
  have c3 := c2.trans (b3.mono c2.size)
  have HS := Lib.hid hS
  clear hS
  go_wp2_with fail
  have c4 := c3.alloc c3.size (.cells #[.slice A 34 k, .int .i64 0] 25)
  have b4 := (Below.refl _ w3).alloc (Nat.le_refl _) (.cells #[.slice A 34 k, .int .i64 0] 25)
  have hS4 := (HS.out.below b4).more b4.size
  generalize World.alloc w3 _ = V at c4 hS4 ⊢
  refine (KP.out A k V hS4).mono ?_
  rintro e w5 ⟨⟨s5, rfl, hs5⟩, b5⟩
  have c5 := c4.trans (b5.mono c4.size)
  clear hS4
  go_wp2_with fail
  refine (KA.out _).mono ?_
  rintro e w6 ⟨rfl, b6⟩
  have c6 := c5.trans (b6.mono c5.size)
  go_wp2_with fail
  refine (KL.out t1 _ ht1.out).mono ?_
  rintro e w7 ⟨⟨s7, rfl, hs7⟩, b7⟩
  have c7 := c6.trans (b7.mono c6.size)
  go_wp2_with fail
  refine (KI.out _).mono ?_
  rintro e w8 ⟨⟨s8, rfl, hs8⟩, b8⟩
  have c8 := c7.trans (b8.mono c7.size)
  obtain rfl : s7 = s8 := (ba_eq hs7.out).trans (ba_eq hs8.out).symm
  go_wp2_with fail
  refine (KN.out t1 _ (by have := hz2.out; omega) (by rw [ht1.out]; exact nst_body 34 (Nat.le_refl _))).mono ?_
  rintro e w9 ⟨rfl, hw9⟩
  subst w9
  go_wp2_with fail
  refine (KI.out _).mono ?_
  rintro e wa ⟨⟨sa, rfl, hsa⟩, ba⟩
  have ca := c8.trans (ba.mono c8.size)
  obtain rfl : s5 = sa := (ba_eq hs5.out).trans (ba_eq hsa.out).symm
  go_wp2_with fail
  go_returns
  exact ⟨rfl, ca⟩
end Go.Proofs.YthfdjfgmgoafnaaDoor
