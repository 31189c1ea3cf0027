/- Layer 50: the document's machine: from a state, from the beginning, of an image's bytes; walked. -/
import Derived.Test.YthfdjfgmgoafnaaDoorSdE
namespace Go.Proofs.YthfdjfgmgoafnaaDoor
open Go.RowKit

theorem range_blk {W : World} {q : Nat} {t : TypeId} {cs : Array Value} (h : Blk W q t cs) : W.rangeAt q 0 cs.toList := fun j v hv => by
  rw [Nat.zero_add, h.cell j]
  simpa using hv
theorem go_stores {w w1 : World} {g : Nat} {z zero cs : Array Value} (hb : Below w.heap.size w w1) (hz : Blk w1 g 106 z) (h22 : z.size = 22) (hc : cs.size = 22) (hg : w.heap.size ≤ g) (hzero : zero.size = 22) :
    (w1.alloc (.cells zero 106)).there w1.heap.size 0 cs.size ∧ (((w1.alloc (.cells zero 106)).setCells w1.heap.size 0 cs.toList).rangeAt w1.heap.size 0 cs.toList ∧ ((w1.alloc (.cells zero 106)).setCells w1.heap.size 0 cs.toList).there g 0 cs.size ∧
      Blk (((w1.alloc (.cells zero 106)).setCells w1.heap.size 0 cs.toList).setCells g 0 cs.toList) g 106 cs ∧ Below w.heap.size w (((w1.alloc (.cells zero 106)).setCells w1.heap.size 0 cs.toList).setCells g 0 cs.toList)) := by
  have hX := Blk.new w1 106 zero
  have hs := hb.size
  have hl := hz.lt
  have zY : Blk ((w1.alloc (.cells zero 106)).setCells w1.heap.size 0 cs.toList) g 106 z := (setCells_other (by omega) cs.toList 0 (w1.alloc (.cells zero 106))).trans (hz.alloc _)
  exact ⟨there_blk hX (by omega), range_blk (setCells_blk hX (by omega)), there_blk zY (by omega), setCells_blk zY (by omega), ((hb.alloc hs _).trans (setCells_below hs _ _ _)).trans (setCells_below hg _ _ _)⟩
def GoPost (inp : ByteArray) (fuel : Nat) (s : Ms) (w : World) (e : Ending) (w' : World) : Prop :=
  (∃ mem t, e = .returned (.agg (scells mem (itr inp.data.toList fuel s) t)) ∧ Hid (t.data.toList = (itr inp.data.toList fuel s).out) ∧ Hid (mem.oneCell' = true)) ∧ Below w.heap.size w w'

set_option maxHeartbeats 4000000 in
theorem ref_Go (A : Option Addr) (c pc rd st fin : Nat) (r : Nat → UInt32) (inp : ByteArray) (fuel : Nat) (w : World) (hA : Sl w w.heap.size A 34 (seedW.map wv)) (hin : inp.size ≤ 20000) (hfu : fuel ≤ 40 * (inp.size + 1)) (hs0 : Hid ((⟨pc, r, rd, [], st, fin⟩ : Ms) = s0)) :
    Calls Tryd.prog 66 #[.agg #[.slice A 34 c, .int .i64 0], .string inp, .agg #[.int .i64 pc, .int .u32 (r 0).toNat, .int .u32 (r 1).toNat, .int .u32 (r 2).toNat, .int .u32 (r 3).toNat, .int .u32 (r 4).toNat, .int .u32 (r 5).toNat, .int .u32 (r 6).toNat, .int .u32 (r 7).toNat, .int .u32 (r 8).toNat, .int .u32 (r 9).toNat, .int .u32 (r 10).toNat, .int .u32 (r 11).toNat, .int .u32 (r 12).toNat, .int .u32 (r 13).toNat, .int .u32 (r 14).toNat, .int .u32 (r 15).toNat, .slice none 0 0, .int .i64 rd, .string ⟨#[]⟩, .int .i64 st, .int .i64 fin], .int .i64 fuel] w (GoPost inp fuel ⟨pc, r, rd, [], st, fin⟩ w) := by
  have h0 := Rn.new w A c ⟨pc, r, rd, [], st, fin⟩ #[.int .i64 0, .int .u32 0, .int .u32 0, .int .u32 0, .int .u32 0, .int .u32 0, .int .u32 0, .int .u32 0, .int .u32 0, .int .u32 0, .int .u32 0, .int .u32 0, .int .u32 0, .int .u32 0, .int .u32 0, .int .u32 0, .int .u32 0, .slice none 0 0, .int .i64 0, .string ⟨#[]⟩, .int .i64 0, .int .i64 0] rfl
  have K : Hid (∀ W : World, Below w.heap.size w W → Calls Tryd.prog 72 #[.agg #[.slice A 34 c, .int .i64 0], .string inp, .agg (scells (.slice none 0 0) ⟨pc, r, rd, [], st, fin⟩ ⟨#[]⟩), .int .i64 fuel] W (RunPost inp fuel ⟨pc, r, rd, [], st, fin⟩ W)) :=
    fun W hb => ref_run A c pc rd st fin r inp fuel W ((hA.below hb).more hb.size) hin hfu hs0
  unfold scells at h0
  dsimp only at h0
  clear hA
  go_enter Tryd.func66, Tryd.ntmps66
  go_upto_region 1 with (fail)
  generalize World.alloc _ _ = W0 at h0 ⊢
  have m0 : W0.cell? ⟨w.heap.size, 0, none⟩ = some (.slice A 34 c) := h0.m.cell 0
  have m1 : W0.cell? ⟨w.heap.size, 1, none⟩ = some (.int .i64 0) := h0.m.cell 1
  have k22 : ∀ M s T, (Tryd.prog.info? 106).map (·.size) = some (scells M s T).toList.length := fun _ _ _ => by kernel_rfl
  have k22s : ∀ M s T, (Tryd.prog.info? 106).map (·.size) = some (scells M s T).size := fun _ _ _ => by kernel_rfl
  have u22 := Tryd.underlying106
  go_wp2_with ((refine wpList_load_mid rfl 106 _ rfl (w.heap.size + 1) 0 rfl (scells (.slice none 0 0) ⟨pc, r, rd, [], st, fin⟩ ⟨#[]⟩).toList _ (range_blk h0.s) u22 rfl (k22 _ _ _) ?_))
  refine (K.out _ h0.bel).mono ?_
  rintro e w1 h1
  unfold RunPost at h1
  unfold GoPost
  obtain ⟨S, hS⟩ : ∃ S, itr inp.data.toList fuel ⟨pc, r, rd, [], st, fin⟩ = S := ⟨_, rfl⟩
  rw [hS] at h1 ⊢
  obtain ⟨⟨v, mem, t, rfl, hT, hm⟩, hb1⟩ := h1
  have hR := h0.below hb1
  obtain ⟨z, hz, hz22⟩ := hR.z
  have htop := hR.top
  have hend := go_stores (zero := #[.int .i64 0, .int .u32 0, .int .u32 0, .int .u32 0, .int .u32 0, .int .u32 0, .int .u32 0, .int .u32 0, .int .u32 0, .int .u32 0, .int .u32 0, .int .u32 0, .int .u32 0, .int .u32 0, .int .u32 0, .int .u32 0, .int .u32 0, .slice none 0 0, .int .i64 0, .string ⟨#[]⟩, .int .i64 0, .int .i64 0]) (cs := scells mem S t) hR.bel hz hz22 rfl (Nat.le_add_right _ 2) rfl
  have K1 := Lib.hid hend.1
  have K2 := Lib.hid hend.2
  have H22 := Lib.hid hz22
  have HS := Lib.hid hS
  clear h0 m0 m1 hb1 hR hend hz hz22 hS K
  go_wp2_with ((first
    | (refine wpList_store_mid rfl 106 _ _ rfl w1.heap.size 0 (scells mem S t) rfl rfl K1.out (k22s mem S t) (scells_one hm.out) ?_; have hY := K2.out; clear K1 K2; generalize World.setCells (World.alloc w1 _) _ _ _ = Wy at hY ⊢; have K3 := Lib.hid hY.1; have K4 := Lib.hid hY.2; clear hY)
    | (refine wpList_load_mid rfl 106 _ rfl w1.heap.size 0 rfl (scells mem S t).toList _ K3.out u22 rfl (k22 mem S t) ?_)
    | (refine wpList_store_mid rfl 106 _ _ rfl (w.heap.size + 1 + 1) 0 (scells mem S t) rfl rfl K4.out.1 (k22s mem S t) (scells_one hm.out) ?_; have hZ := K4.out.2; clear K3 K4; generalize World.setCells Wy _ _ _ = Wz at hZ ⊢; have K5 := Lib.hid hZ; clear hZ)))
  refine bodyPost_ret (results_cell_row Tryd.results66 _ _ (w.heap.size + 1 + 1) _ _ _ _ rfl K5.out.1 u22 rfl (k22s mem S t)) rfl ?_
  unfold GoPost
  rw [HS.out]
  exact ⟨⟨_, _, rfl, hT, hm⟩, K5.out.2⟩

theorem start_boxes (w : World) (M Z : Array Value) : Blk (((w.alloc (.cells M 25)).alloc (.cells Z 106)).alloc (.cells Z 106)) (w.heap.size + 1 + 1) 106 Z ∧
    Blk (((w.alloc (.cells M 25)).alloc (.cells Z 106)).alloc (.cells Z 106)) (w.heap.size + 1) 106 Z ∧ Below w.heap.size w (((w.alloc (.cells M 25)).alloc (.cells Z 106)).alloc (.cells Z 106)) := by
  refine ⟨?_, ?_, (((Below.refl _ w).alloc (Nat.le_refl _) _).alloc (by simp) _).alloc (by simp; omega) _⟩
  · have h := Blk.new ((w.alloc (.cells M 25)).alloc (.cells Z 106)) 106 Z
    simpa using h
  · have h := (Blk.new (w.alloc (.cells M 25)) 106 Z).alloc (.cells Z 106)
    simpa using h
theorem zero_cells : (#[.int .i64 0, .int .u32 0, .int .u32 0, .int .u32 0, .int .u32 0, .int .u32 0, .int .u32 0, .int .u32 0, .int .u32 0, .int .u32 0, .int .u32 0, .int .u32 0, .int .u32 0, .int .u32 0, .int .u32 0, .int .u32 0, .int .u32 0, .slice none 0 0, .int .i64 0, .string ⟨#[]⟩, .int .i64 0, .int .i64 0] : Array Value) = scells (.slice none 0 0) s0 ⟨#[]⟩ := by kernel_rfl
set_option maxHeartbeats 4000000 in
theorem ref_Start (A : Option Addr) (c : Nat) (w : World) :
    Calls Tryd.prog 67 #[.agg #[.slice A 34 c, .int .i64 0]] w fun e w' => e = .returned (.agg (scells (.slice none 0 0) s0 ⟨#[]⟩)) ∧ Below w.heap.size w w' := by
  obtain ⟨Z, hZ⟩ : ∃ Z : Array Value, #[.int .i64 0, .int .u32 0, .int .u32 0, .int .u32 0, .int .u32 0, .int .u32 0, .int .u32 0, .int .u32 0, .int .u32 0, .int .u32 0, .int .u32 0, .int .u32 0, .int .u32 0, .int .u32 0, .int .u32 0, .int .u32 0, .int .u32 0, .slice none 0 0, .int .i64 0, .string ⟨#[]⟩, .int .i64 0, .int .i64 0] = Z := ⟨_, rfl⟩
  have hZ2 : Hid (Z = scells (.slice none 0 0) s0 ⟨#[]⟩) := hZ ▸ zero_cells
  have h22 : Hid (Z.size = 22) := by unfold Hid; rw [← hZ]; rfl
  have h1Z : Hid (Z.all (·.oneCell') = true) := by unfold Hid; rw [← hZ]; kernel_rfl
  have HZ := Lib.hid hZ
  clear hZ
  go_enter Tryd.func67, Tryd.ntmps67
  go_upto_region 4 with (fail)
  rw [HZ.out]
  have hs := start_boxes w #[.slice A 34 c, .int .i64 0] Z
  have k22 : Hid ((Tryd.prog.info? 106).map (·.size) = some Z.size) := by unfold Hid; rw [h22.out]; kernel_rfl
  have k22l : Hid ((Tryd.prog.info? 106).map (·.size) = some Z.toList.length) := by unfold Hid; rw [Array.length_toList]; exact k22.out
  generalize World.alloc _ _ = W0 at hs ⊢
  have K1 := Lib.hid hs.1
  have K2 := Lib.hid hs.2.1
  have K3 := Lib.hid (there_blk hs.2.1 (Nat.le_refl _))
  have K4 := Lib.hid hs.2.2
  have u22 := Tryd.underlying106
  clear hs
  go_wp2_with ((first
    | (refine wpList_load_mid rfl 106 _ rfl (w.heap.size + 1 + 1) 0 rfl Z.toList _ (range_blk K1.out) u22 rfl k22l.out ?_)
    | (refine wpList_store_mid rfl 106 _ _ rfl (w.heap.size + 1) 0 Z rfl rfl K3.out k22.out h1Z.out ?_; have hZ := setCells_blk K2.out (cs := Z) rfl; have hb := K4.out.trans (setCells_below (B := w.heap.size) (g := w.heap.size + 1) (Nat.le_succ _) Z.toList 0 W0); clear K1 K2 K3 K4; generalize World.setCells W0 _ _ _ = Wz at hZ hb ⊢; have K5 := Lib.hid hZ; have K6 := Lib.hid hb; clear hZ hb)))
  refine bodyPost_ret (results_cell_row Tryd.results67 _ _ (w.heap.size + 1) _ _ _ _ rfl K5.out u22 rfl k22.out) rfl ?_
  rw [← hZ2.out]
  exact ⟨rfl, K6.out⟩
end Go.Proofs.YthfdjfgmgoafnaaDoor
