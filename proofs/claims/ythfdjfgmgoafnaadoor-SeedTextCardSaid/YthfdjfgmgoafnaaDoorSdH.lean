/- Layer 50: the document's machine: the seed run on a text from the beginning; walked. -/
import Derived.IntWalk
import Derived.Test.YthfdjfgmgoafnaaDoorSdF
import Derived.Test.YthfdjfgmgoafnaaDoorImgS
import Derived.Test.YthfdjfgmgoafnaaDoorImgL
namespace Go.Proofs.YthfdjfgmgoafnaaDoor
open Go.RowKit

/-- The boxes of Run: the image, the result. -/
structure Ru (w : World) (A : Option Addr) (c : Nat) (W : World) : Prop where
  m : Blk W w.heap.size 25 #[.slice A 34 c, .int .i64 0]
  z : Blk W (w.heap.size + 1) 85 #[.int .i64 0, .string ⟨#[]⟩, .int .i64 0]
  bel : Below w.heap.size w W
section
variable {w W W' : World} {A : Option Addr} {c : Nat}
theorem Ru.below (h : Ru w A c W) (hb : Below W.heap.size W W') : Ru w A c W' := ⟨h.m.below hb h.m.lt, h.z.below hb h.z.lt, h.bel.trans (hb.mono h.bel.size)⟩
theorem Ru.alloc (h : Ru w A c W) (x : Obj) : Ru w A c (W.alloc x) := h.below ((Below.refl _ W).alloc (Nat.le_refl _) x)
theorem Ru.drew (h : Ru w A c W) : Ru w A c W.drew := h.below (Below.refl _ W).drew
end
theorem Ru.new (w : World) (A : Option Addr) (c : Nat) : Ru w A c ((w.alloc (.cells #[.slice A 34 c, .int .i64 0] 25)).alloc (.cells #[.int .i64 0, .string ⟨#[]⟩, .int .i64 0] 85)) := by
  refine ⟨(Blk.new w _ _).alloc _, ?_, ((Below.refl _ w).alloc (Nat.le_refl _) _).alloc (by simp) _⟩
  have h := Blk.new (w.alloc (.cells #[.slice A 34 c, .int .i64 0] 25)) 85 #[.int .i64 0, .string ⟨#[]⟩, .int .i64 0]
  simpa using h
/-- Behind the run: the last state's box. -/
def RelR (w : World) (A : Option Addr) (c : Nat) (_inp : ByteArray) (S : Ms) (p : Value) (W : World) : Prop :=
  ∃ (q : Nat) (mem : Value) (t : ByteArray), p = .pointer (some ⟨q, 0, none⟩) ∧ Blk W q 106 (scells mem S t) ∧ Hid (t.data.toList = S.out) ∧ Ru w A c W
theorem relR_end {w W W1 : World} {A : Option Addr} {c q : Nat} {inp t : ByteArray} {S : Ms} {mem : Value} {z : Array Value} (h1 : Ru w A c W1) (hb : Below W1.heap.size W1 W) (hq : W1.heap.size ≤ q) (hB : Blk W q 106 z) (hz : z.size = 22) (hT : Hid (t.data.toList = S.out)) :
    W.there q 0 (scells mem S t).size ∧ RelR w A c inp S (.pointer (some ⟨q, 0, none⟩)) (W.setCells q 0 (scells mem S t).toList) := by
  have e : (scells mem S t).size = 22 := rfl
  exact ⟨there_blk hB (by omega), q, mem, t, rfl, setCells_blk hB (by omega), hT, h1.below (hb.trans (setCells_below hq _ _ _))⟩
theorem relR_ru {w W : World} {A : Option Addr} {c : Nat} {inp : ByteArray} {S : Ms} {p : Value} (h : RelR w A c inp S p W) : Ru w A c W := by
  obtain ⟨q, mem, t, _, _, _, h⟩ := h
  exact h
theorem run_fin (inp : ByteArray) : ∃ S : Ms, itr inp.data.toList (40 * (inp.size + 1)) s0 = S ∧ S.fin = 1 ∧ S.out = loadL inp.data.toList := by
  have h := seed_runs inp.data.toList
  exact ⟨_, rfl, h.1, h.2⟩

set_option maxRecDepth 100000 in
set_option maxHeartbeats 4000000 in
theorem ref_Run (A : Option Addr) (c : Nat) (inp : ByteArray) (w : World) (hA : Sl w w.heap.size A 34 (seedW.map wv)) (hin : inp.size ≤ 20000) :
    Calls Tryd.prog 60 #[.agg #[.slice A 34 c, .int .i64 0], .string inp, .int .i64 ((40 * (inp.size + 1) : Nat) : Int)] w fun e w' => (∃ (t : ByteArray) (n : Nat), e = .returned (.agg #[.int .i64 1, .string t, .int .i64 n]) ∧ Hid (t.data.toList = loadL inp.data.toList)) ∧ Below w.heap.size w w' := by
  obtain ⟨S, hS, hfin, hout⟩ := run_fin inp
  obtain ⟨F, hF⟩ : ∃ F, 40 * (inp.size + 1) = F := ⟨_, rfl⟩
  rw [← hout, hF]
  rw [hF] at hS
  have h0 := Ru.new w A c
  have K : Hid (∀ W : World, Below w.heap.size w W → Calls Tryd.prog 66 #[.agg #[.slice A 34 c, .int .i64 0], .string inp, .agg (scells (.slice none 0 0) s0 ⟨#[]⟩), .int .i64 F] W fun e w' => (∃ mem t, e = .returned (.agg (scells mem S t)) ∧ Hid (t.data.toList = S.out) ∧ Hid (mem.oneCell' = true)) ∧ Below W.heap.size W w') := by
    intro W hb
    have k := ref_Go A c 0 0 0 0 (fun _ => 0) inp F W ((hA.below hb).more hb.size) hin (Nat.le_of_eq hF.symm) rfl
    unfold GoPost at k
    rw [show (⟨0, fun _ => 0, 0, [], 0, 0⟩ : Ms) = s0 from rfl, hS] at k
    exact k
  have K0 := Lib.hid (ref_Start A c)
  clear hA hF hS hout
  have HFin := Lib.hid hfin
  clear hfin
  go_enter Tryd.func60, Tryd.ntmps60
  go_wp2_with fail
  generalize World.alloc _ _ = W0 at h0 ⊢
  go_cut [7] from 8 to 13 (fun p wr => RelR w A c inp S p wr)
  case first =>
    have k22s : ∀ M s T, (Tryd.prog.info? 106).map (·.size) = some (scells M s T).size := fun _ _ _ => by kernel_rfl
    refine wp_region_held_drew (S := (fun W => Ru w A c W)) (by kernel_rfl) h0.drew (fun hHeld => ?_)
    clear h0
    generalize World.drew W0 = W1 at hHeld ⊢
    refine wpAnyH_take (i := 0) (v := ?_) rfl (by kernel_rfl) (by kernel_rfl) (by kernel_rfl) (fun _ _ _ h => h) (Or.inl ⟨by kernel_rfl, ?_⟩) (by assumption) ?_
    rotate_left
    · intro w hSw; have m0 := hSw.m.cell 0; have m1 := hSw.m.cell 1; go_simp; (try with_reducible rfl)
    try simp only [Act.put, List.getElem_toArray, List.getElem_cons_zero, List.setIfInBounds_toArray, List.set_cons_zero, List.set_cons_succ]
    refine wpAnyH_take (i := 1) (v := ?_) rfl (by kernel_rfl) (by kernel_rfl) (by kernel_rfl) (fun _ _ _ h => h) (Or.inl ⟨by kernel_rfl, ?_⟩) (by assumption) ?_
    rotate_left
    · intro w hSw; have m0 := hSw.m.cell 0; have m1 := hSw.m.cell 1; go_simp; (try with_reducible rfl)
    try simp only [Act.put, List.getElem_toArray, List.getElem_cons_succ, List.getElem_cons_zero, List.setIfInBounds_toArray, List.set_cons_zero, List.set_cons_succ]
    refine wpAnyH_take (i := 2) (v := ?_) rfl (by kernel_rfl) (by kernel_rfl) (by kernel_rfl) (fun _ _ _ h => h) (Or.inl ⟨by kernel_rfl, ?_⟩) (by assumption) ?_
    rotate_left
    · intro w hSw; have m0 := hSw.m.cell 0; have m1 := hSw.m.cell 1; go_simp; (try with_reducible rfl)
    try simp only [Act.put, List.getElem_toArray, List.getElem_cons_succ, List.getElem_cons_zero, List.setIfInBounds_toArray, List.set_cons_zero, List.set_cons_succ]
    refine wpAnyH_take (i := 4) (v := ?_) rfl (by kernel_rfl) (by kernel_rfl) (by kernel_rfl) (fun _ _ _ h => h) (Or.inl ⟨by kernel_rfl, ?_⟩) (by assumption) ?_
    rotate_left
    · intro w hSw; have m0 := hSw.m.cell 0; have m1 := hSw.m.cell 1; go_simp; (try with_reducible rfl)
    try simp only [Act.put, List.getElem_toArray, List.getElem_cons_succ, List.getElem_cons_zero, List.setIfInBounds_toArray, List.set_cons_zero, List.set_cons_succ]
    have hHeld0 := Lib.hid hHeld
    have KGo := K
    clear K
    refine wpAnyH_ready (rs := [3, 6]) (by kernel_rfl) (by simp) ?_
    refine AllReadyH.cons rfl (fun K hK => ?_) (AllReadyH.cons rfl (fun K hK => ?_) AllReadyH.nil)
    · go_simp
      refine (K0.out _).mono ?_
      rintro e W2 ⟨rfl, b0⟩
      have hR := hHeld.below b0
      refine hK.out _ _ hR (fun hHeld => ?_)
      clear hK K hR
      try simp only [Act.put, List.getElem_toArray, List.getElem_cons_succ, List.getElem_cons_zero, List.setIfInBounds_toArray, List.set_cons_zero, List.set_cons_succ]
      refine wpAnyH_ready (rs := [5, 6]) (by kernel_rfl) (by simp) ?_
      refine AllReadyH.cons rfl (fun K hK => ?_) (AllReadyH.cons rfl (fun K hK => ?_) AllReadyH.nil)
      · go_simp
        refine (KGo.out _ hHeld.bel).mono ?_
        rintro e W3 ⟨⟨mem, t, rfl, hT, hm⟩, b1⟩
        have hR := hHeld.below b1
        refine hK.out _ _ hR (fun hHeld => ?_)
        clear hK K hR
        try simp only [Act.put, List.getElem_toArray, List.getElem_cons_succ, List.getElem_cons_zero, List.setIfInBounds_toArray, List.set_cons_zero, List.set_cons_succ]
        refine wpAnyH_ready (rs := [6]) (by kernel_rfl) (by simp) ?_
        refine AllReadyH.cons rfl (fun K hK => ?_) AllReadyH.nil
        go_simp
        have b2 := (Below.refl W3.heap.size W3).alloc (Nat.le_refl _) (.cells #[.int .i64 0, .int .u32 0, .int .u32 0, .int .u32 0, .int .u32 0, .int .u32 0, .int .u32 0, .int .u32 0, .int .u32 0, .int .u32 0, .int .u32 0, .int .u32 0, .int .u32 0, .int .u32 0, .int .u32 0, .int .u32 0, .int .u32 0, .slice none 0 0, .int .i64 0, .string ⟨#[]⟩, .int .i64 0, .int .i64 0] 106)
        have f6 := Blk.new W3 106 #[.int .i64 0, .int .u32 0, .int .u32 0, .int .u32 0, .int .u32 0, .int .u32 0, .int .u32 0, .int .u32 0, .int .u32 0, .int .u32 0, .int .u32 0, .int .u32 0, .int .u32 0, .int .u32 0, .int .u32 0, .int .u32 0, .int .u32 0, .slice none 0 0, .int .i64 0, .string ⟨#[]⟩, .int .i64 0, .int .i64 0]
        have hR := hHeld.alloc (.cells #[.int .i64 0, .int .u32 0, .int .u32 0, .int .u32 0, .int .u32 0, .int .u32 0, .int .u32 0, .int .u32 0, .int .u32 0, .int .u32 0, .int .u32 0, .int .u32 0, .int .u32 0, .int .u32 0, .int .u32 0, .int .u32 0, .int .u32 0, .slice none 0 0, .int .i64 0, .string ⟨#[]⟩, .int .i64 0, .int .i64 0] 106)
        generalize World.alloc W3 _ = W4 at b2 f6 hR ⊢
        refine hK.out _ _ hR (fun hHeld => ?_)
        clear hK K hR
        try simp only [Act.put, List.getElem_toArray, List.getElem_cons_succ, List.getElem_cons_zero, List.setIfInBounds_toArray, List.set_cons_zero, List.set_cons_succ]
        have hEnd := Lib.hid (relR_end (inp := inp) (mem := mem) hHeld0.out ((b0.trans (b1.mono b0.size)).trans (b2.mono (Nat.le_trans b0.size b1.size))) (q := W3.heap.size) (by have := b0.size; have := b1.size; omega) f6 rfl hT)
        clear b0 b1 b2 f6
        refine wpAnyH_ready (rs := [7]) (by kernel_rfl) (by simp) ?_
        refine AllReadyH.cons rfl (fun K hK => ?_) AllReadyH.nil
        rw [if_pos (by kernel_rfl)]
        refine wp_store_mid 106 _ _ rfl W3.heap.size 0 (scells mem S t) rfl rfl hEnd.out.1 (k22s mem S t) (scells_one hm.out) ?_
        refine hK.out _ _ (relR_ru hEnd.out.2) (fun _ => ?_)
        clear hK K
        try simp only [Act.put, List.getElem_toArray, List.getElem_cons_succ, List.getElem_cons_zero]
        refine wpAnyH_done (by kernel_rfl) ?_ _
        have hE := hEnd.out.2
        clear hEnd
        generalize World.setCells _ _ _ _ = WE at hE ⊢
        go_wp2_with fail
        go_meet
        case rel => exact hE
      · go_simp
        have b1 := (Below.refl W2.heap.size W2).alloc (Nat.le_refl _) (.cells #[.int .i64 0, .int .u32 0, .int .u32 0, .int .u32 0, .int .u32 0, .int .u32 0, .int .u32 0, .int .u32 0, .int .u32 0, .int .u32 0, .int .u32 0, .int .u32 0, .int .u32 0, .int .u32 0, .int .u32 0, .int .u32 0, .int .u32 0, .slice none 0 0, .int .i64 0, .string ⟨#[]⟩, .int .i64 0, .int .i64 0] 106)
        have f6 := Blk.new W2 106 #[.int .i64 0, .int .u32 0, .int .u32 0, .int .u32 0, .int .u32 0, .int .u32 0, .int .u32 0, .int .u32 0, .int .u32 0, .int .u32 0, .int .u32 0, .int .u32 0, .int .u32 0, .int .u32 0, .int .u32 0, .int .u32 0, .int .u32 0, .slice none 0 0, .int .i64 0, .string ⟨#[]⟩, .int .i64 0, .int .i64 0]
        have hR := hHeld.alloc (.cells #[.int .i64 0, .int .u32 0, .int .u32 0, .int .u32 0, .int .u32 0, .int .u32 0, .int .u32 0, .int .u32 0, .int .u32 0, .int .u32 0, .int .u32 0, .int .u32 0, .int .u32 0, .int .u32 0, .int .u32 0, .int .u32 0, .int .u32 0, .slice none 0 0, .int .i64 0, .string ⟨#[]⟩, .int .i64 0, .int .i64 0] 106)
        generalize World.alloc W2 _ = W3 at b1 f6 hR ⊢
        refine hK.out _ _ hR (fun hHeld => ?_)
        clear hK K hR
        try simp only [Act.put, List.getElem_toArray, List.getElem_cons_succ, List.getElem_cons_zero, List.setIfInBounds_toArray, List.set_cons_zero, List.set_cons_succ]
        refine wpAnyH_ready (rs := [5]) (by kernel_rfl) (by simp) ?_
        refine AllReadyH.cons rfl (fun K hK => ?_) AllReadyH.nil
        go_simp
        refine (KGo.out _ hHeld.bel).mono ?_
        rintro e W4 ⟨⟨mem, t, rfl, hT, hm⟩, b2⟩
        have hR := hHeld.below b2
        refine hK.out _ _ hR (fun hHeld => ?_)
        clear hK K hR
        try simp only [Act.put, List.getElem_toArray, List.getElem_cons_succ, List.getElem_cons_zero, List.setIfInBounds_toArray, List.set_cons_zero, List.set_cons_succ]
        have hEnd := Lib.hid (relR_end (inp := inp) (mem := mem) hHeld0.out ((b0.trans (b1.mono b0.size)).trans (b2.mono (Nat.le_trans b0.size b1.size))) (q := W2.heap.size) (by have := b0.size; have := b1.size; omega) (Blk.below f6 b2 (Blk.lt f6)) rfl hT)
        clear b0 b1 b2 f6
        refine wpAnyH_ready (rs := [7]) (by kernel_rfl) (by simp) ?_
        refine AllReadyH.cons rfl (fun K hK => ?_) AllReadyH.nil
        rw [if_pos (by kernel_rfl)]
        refine wp_store_mid 106 _ _ rfl W2.heap.size 0 (scells mem S t) rfl rfl hEnd.out.1 (k22s mem S t) (scells_one hm.out) ?_
        refine hK.out _ _ (relR_ru hEnd.out.2) (fun _ => ?_)
        clear hK K
        try simp only [Act.put, List.getElem_toArray, List.getElem_cons_succ, List.getElem_cons_zero]
        refine wpAnyH_done (by kernel_rfl) ?_ _
        have hE := hEnd.out.2
        clear hEnd
        generalize World.setCells _ _ _ _ = WE at hE ⊢
        go_wp2_with fail
        go_meet
        case rel => exact hE
    · go_simp
      have b0 := (Below.refl W1.heap.size W1).alloc (Nat.le_refl _) (.cells #[.int .i64 0, .int .u32 0, .int .u32 0, .int .u32 0, .int .u32 0, .int .u32 0, .int .u32 0, .int .u32 0, .int .u32 0, .int .u32 0, .int .u32 0, .int .u32 0, .int .u32 0, .int .u32 0, .int .u32 0, .int .u32 0, .int .u32 0, .slice none 0 0, .int .i64 0, .string ⟨#[]⟩, .int .i64 0, .int .i64 0] 106)
      have f6 := Blk.new W1 106 #[.int .i64 0, .int .u32 0, .int .u32 0, .int .u32 0, .int .u32 0, .int .u32 0, .int .u32 0, .int .u32 0, .int .u32 0, .int .u32 0, .int .u32 0, .int .u32 0, .int .u32 0, .int .u32 0, .int .u32 0, .int .u32 0, .int .u32 0, .slice none 0 0, .int .i64 0, .string ⟨#[]⟩, .int .i64 0, .int .i64 0]
      have hR := hHeld.alloc (.cells #[.int .i64 0, .int .u32 0, .int .u32 0, .int .u32 0, .int .u32 0, .int .u32 0, .int .u32 0, .int .u32 0, .int .u32 0, .int .u32 0, .int .u32 0, .int .u32 0, .int .u32 0, .int .u32 0, .int .u32 0, .int .u32 0, .int .u32 0, .slice none 0 0, .int .i64 0, .string ⟨#[]⟩, .int .i64 0, .int .i64 0] 106)
      generalize World.alloc W1 _ = W2 at b0 f6 hR ⊢
      refine hK.out _ _ hR (fun hHeld => ?_)
      clear hK K hR
      try simp only [Act.put, List.getElem_toArray, List.getElem_cons_succ, List.getElem_cons_zero, List.setIfInBounds_toArray, List.set_cons_zero, List.set_cons_succ]
      refine wpAnyH_ready (rs := [3]) (by kernel_rfl) (by simp) ?_
      refine AllReadyH.cons rfl (fun K hK => ?_) AllReadyH.nil
      go_simp
      refine (K0.out _).mono ?_
      rintro e W3 ⟨rfl, b1⟩
      have hR := hHeld.below b1
      refine hK.out _ _ hR (fun hHeld => ?_)
      clear hK K hR
      try simp only [Act.put, List.getElem_toArray, List.getElem_cons_succ, List.getElem_cons_zero, List.setIfInBounds_toArray, List.set_cons_zero, List.set_cons_succ]
      refine wpAnyH_ready (rs := [5]) (by kernel_rfl) (by simp) ?_
      refine AllReadyH.cons rfl (fun K hK => ?_) AllReadyH.nil
      go_simp
      refine (KGo.out _ hHeld.bel).mono ?_
      rintro e W4 ⟨⟨mem, t, rfl, hT, hm⟩, b2⟩
      have hR := hHeld.below b2
      refine hK.out _ _ hR (fun hHeld => ?_)
      clear hK K hR
      try simp only [Act.put, List.getElem_toArray, List.getElem_cons_succ, List.getElem_cons_zero, List.setIfInBounds_toArray, List.set_cons_zero, List.set_cons_succ]
      have hEnd := Lib.hid (relR_end (inp := inp) (mem := mem) hHeld0.out ((b0.trans (b1.mono b0.size)).trans (b2.mono (Nat.le_trans b0.size b1.size))) (q := W1.heap.size) (by have := b0.size; have := b1.size; omega) (Blk.below (Blk.below f6 b1 (Blk.lt f6)) b2 (Blk.lt (Blk.below f6 b1 (Blk.lt f6)))) rfl hT)
      clear b0 b1 b2 f6
      refine wpAnyH_ready (rs := [7]) (by kernel_rfl) (by simp) ?_
      refine AllReadyH.cons rfl (fun K hK => ?_) AllReadyH.nil
      rw [if_pos (by kernel_rfl)]
      refine wp_store_mid 106 _ _ rfl W1.heap.size 0 (scells mem S t) rfl rfl hEnd.out.1 (k22s mem S t) (scells_one hm.out) ?_
      refine hK.out _ _ (relR_ru hEnd.out.2) (fun _ => ?_)
      clear hK K
      try simp only [Act.put, List.getElem_toArray, List.getElem_cons_succ, List.getElem_cons_zero]
      refine wpAnyH_done (by kernel_rfl) ?_ _
      have hE := hEnd.out.2
      clear hEnd
      generalize World.setCells _ _ _ _ = WE at hE ⊢
      go_wp2_with fail
      go_meet
      case rel => exact hE
  case rest =>
    obtain ⟨q, mem, t, rfl, hq, hT, hR⟩ := hcut
    clear h0 K K0
    have r0 : wc.cell? ⟨w.heap.size + 1, 0, none⟩ = some (.int .i64 0) := hR.z.cell 0
    have r1 : wc.cell? ⟨w.heap.size + 1, 1, none⟩ = some (.string ⟨#[]⟩) := hR.z.cell 1
    have r2 : wc.cell? ⟨w.heap.size + 1, 2, none⟩ = some (.int .i64 0) := hR.z.cell 2
    have f0 := hR.z.frozen 0
    have f1 := hR.z.frozen 1
    have f2 := hR.z.frozen 2
    have q19 : wc.cell? ⟨q, 19, none⟩ = some (.string t) := hq.cell 19
    have q20 : wc.cell? ⟨q, 20, none⟩ = some (.int .i64 S.st) := hq.cell 20
    have q21 : wc.cell? ⟨q, 21, none⟩ = some (.int .i64 1) := (hq.cell 21).trans (by show some (Value.int .i64 (S.fin : Int)) = _; rw [HFin.out]; rfl)
    have hb3 := ((hR.bel.setCell (p := ⟨w.heap.size + 1, 0, none⟩) (Nat.le_succ _) (.int .i64 1)).setCell (p := ⟨w.heap.size + 1, 1, none⟩) (Nat.le_succ _) (.string t)).setCell (p := ⟨w.heap.size + 1, 2, none⟩) (Nat.le_succ _) (.int .i64 S.st)
    have hz3 : Blk (((wc.setCell ⟨w.heap.size + 1, 0, none⟩ (.int .i64 1)).setCell ⟨w.heap.size + 1, 1, none⟩ (.string t)).setCell ⟨w.heap.size + 1, 2, none⟩ (.int .i64 S.st)) (w.heap.size + 1) 85 #[.int .i64 1, .string t, .int .i64 S.st] := ((hR.z.set 0 (.int .i64 1)).set 1 (.string t)).set 2 (.int .i64 S.st)
    have HB := Lib.hid hb3
    have HZ := Lib.hid hz3
    clear hb3 hz3 hR hq
    go_wp2_with fail
    refine bodyPost_ret (results_cell_row Tryd.results60 _ _ (w.heap.size + 1) _ _ _ _ rfl HZ.out Tryd.underlying85 rfl (by kernel_rfl)) rfl ?_
    exact ⟨⟨t, S.st, rfl, hT⟩, HB.out⟩

theorem ref_Steps (n : Nat) (w : World) (hn : n ≤ 20000) : Calls Tryd.prog 46 #[.int .i64 n] w fun e w' => e = .returned (.int .i64 ((40 * (n + 1) : Nat) : Int)) ∧ w = w' := by
  have h1 : IntKind.i64.wrap ((n : Int) + 1) = (n : Int) + 1 := IntWalk.i64_in _ (by omega)
  have h2 : IntKind.i64.wrap (40 * ((n : Int) + 1)) = ((40 * (n + 1) : Nat) : Int) := by rw [IntWalk.i64_in _ (by omega)]; omega
  go_enter Tryd.func46, Tryd.ntmps46
  go_wp2_with fail
  go_returns
  exact ⟨ret_int (by omega), rfl⟩

set_option maxRecDepth 100000 in
set_option maxHeartbeats 4000000 in
theorem ref_BytesRun (img inp : ByteArray) (w : World) (hi : img.data.toList = putI seedW 0) (hin : inp.size ≤ 20000) :
    Calls Tryd.prog 45 #[.string img, .string inp, .int .i64 ((40 * (inp.size + 1) : Nat) : Int)] w fun e w' => (∃ (t : ByteArray) (n : Nat), e = .returned (.tuple #[.agg #[.int .i64 1, .string t, .int .i64 n], .int .i64 0]) ∧ Hid (t.data.toList = loadL inp.data.toList)) ∧ Below w.heap.size w w' := by
  have hread : readI img.data.toList = some (seedW, 0) := by rw [hi]; exact put_read (by decide)
  obtain ⟨F, hF⟩ : ∃ F, 40 * (inp.size + 1) = F := ⟨_, rfl⟩
  rw [hF]
  have hz := Blk.new w 85 #[.int .i64 0, .string ⟨#[]⟩, .int .i64 0]
  have hb0 := (Below.refl _ w).alloc (Nat.le_refl _) (.cells #[.int .i64 0, .string ⟨#[]⟩, .int .i64 0] 85)
  have HF := Lib.hid hF
  have HI := Lib.hid hi
  clear hF hi
  go_enter Tryd.func45, Tryd.ntmps45
  go_wp2_with fail
  generalize World.alloc _ _ = W0 at hz hb0 ⊢
  refine (refRead_ok img seedW 0 W0 hread).mono ?_
  rintro e w1 ⟨⟨v, rfl, hown⟩, hb1⟩
  obtain ⟨A, c, rfl, hle, -, hS⟩ := Sl.of_own hown
  rw [seedW_len] at hS ⊢
  have hz1 := (hz.below hb1 hz.lt).alloc (.cells #[.slice A 34 c, .int .i64 0] 25)
  have hS1 := hS.below ((Below.refl _ w1).alloc (Nat.le_refl _) (.cells #[.slice A 34 c, .int .i64 0] 25))
  have hb2 := (hb0.trans (hb1.mono hb0.size)).alloc (by have := hb0.size; have := hb1.size; omega) (.cells #[.slice A 34 c, .int .i64 0] 25)
  have K : Hid (Calls Tryd.prog 60 #[.agg #[.slice A 34 c, .int .i64 0], .string inp, .int .i64 F] (w1.alloc (.cells #[.slice A 34 c, .int .i64 0] 25)) fun e w' => (∃ (t : ByteArray) (n : Nat), e = .returned (.agg #[.int .i64 1, .string t, .int .i64 n]) ∧ Hid (t.data.toList = loadL inp.data.toList)) ∧ Below (w1.alloc (.cells #[.slice A 34 c, .int .i64 0] 25)).heap.size (w1.alloc (.cells #[.slice A 34 c, .int .i64 0] 25)) w') := by
    have k := ref_Run A c inp _ (hS1.more (by simp)) hin
    rw [HF.out] at k
    exact k
  have HZ1 := Lib.hid hz1
  have HB2 := Lib.hid hb2
  clear hown hS hS1 hz hb0 hb1 hz1 hb2 hread hle
  go_wp2_with fail
  refine K.out.mono ?_
  rintro e w2 ⟨⟨t, n, rfl, hT⟩, hb3⟩
  have hz2 := HZ1.out.below hb3 HZ1.out.lt
  have hb4 := HB2.out.trans (hb3.mono HB2.out.size)
  have r0 : w2.cell? ⟨w.heap.size, 0, none⟩ = some (.int .i64 0) := hz2.cell 0
  have r1 : w2.cell? ⟨w.heap.size, 1, none⟩ = some (.string ⟨#[]⟩) := hz2.cell 1
  have r2 : w2.cell? ⟨w.heap.size, 2, none⟩ = some (.int .i64 0) := hz2.cell 2
  have f0 := hz2.frozen 0
  have f1 := hz2.frozen 1
  have f2 := hz2.frozen 2
  have hz3 : Blk (((w2.setCell ⟨w.heap.size, 0, none⟩ (.int .i64 1)).setCell ⟨w.heap.size, 1, none⟩ (.string t)).setCell ⟨w.heap.size, 2, none⟩ (.int .i64 n)) w.heap.size 85 #[.int .i64 1, .string t, .int .i64 n] := ((hz2.set 0 (.int .i64 1)).set 1 (.string t)).set 2 (.int .i64 n)
  have hb5 := ((hb4.setCell (p := ⟨w.heap.size, 0, none⟩) (Nat.le_refl _) (.int .i64 1)).setCell (p := ⟨w.heap.size, 1, none⟩) (Nat.le_refl _) (.string t)).setCell (p := ⟨w.heap.size, 2, none⟩) (Nat.le_refl _) (.int .i64 n)
  have HZ3 := Lib.hid hz3
  have HB5 := Lib.hid hb5
  clear hz2 hb4 hz3 hb5 hb3 K HZ1 HB2
  go_wp2_with fail
  refine bodyPost_ret (results_row2 Tryd.results45 _ _ w.heap.size _ _ rfl HZ3.out Tryd.underlying85 rfl (by kernel_rfl)) rfl ?_
  exact ⟨⟨t, n, rfl, hT⟩, HB5.out⟩
end Go.Proofs.YthfdjfgmgoafnaaDoor
