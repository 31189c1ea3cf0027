/- Layer 3: what the laws' own texts share: boxes of states, and the tables, through calls. -/
import Derived.Test.YtekpfpikbgiblaaDoorDgE
import Derived.Test.YtekpfpikbgiblaaDoorDgZ
import Derived.Test.YtekpfpikbgiblaaDoorDgV
namespace Go.Proofs.YtekpfpikbgiblaaDoor
open Go.RowKit

theorem mixL (f : Nat → UInt32) (W : World) (hP : Places W) : Calls Tryd.prog 18 #[.agg #[.int .u32 (f 0).toNat, .int .u32 (f 1).toNat, .int .u32 (f 2).toNat, .int .u32 (f 3).toNat, .int .u32 (f 4).toNat, .int .u32 (f 5).toNat, .int .u32 (f 6).toNat, .int .u32 (f 7).toNat]] W fun e W' => e = .returned (.agg (stv (mix f))) ∧ Below W.heap.size W W' := digest_Mix f W hP
theorem unmixL (f : Nat → UInt32) (W : World) (hP : Places W) : Calls Tryd.prog 17 #[.agg #[.int .u32 (f 0).toNat, .int .u32 (f 1).toNat, .int .u32 (f 2).toNat, .int .u32 (f 3).toNat, .int .u32 (f 4).toNat, .int .u32 (f 5).toNat, .int .u32 (f 6).toNat, .int .u32 (f 7).toNat]] W fun e W' => e = .returned (.agg (stv (unmix f))) ∧ Below W.heap.size W W' := digest_Unmix f W hP
theorem refMixL (f : Nat → UInt32) (W : World) : Calls Tryd.prog 30 #[.agg #[.int .u32 (f 0).toNat, .int .u32 (f 1).toNat, .int .u32 (f 2).toNat, .int .u32 (f 3).toNat, .int .u32 (f 4).toNat, .int .u32 (f 5).toNat, .int .u32 (f 6).toNat, .int .u32 (f 7).toNat]] W fun e W' => e = .returned (.agg (stv (mix f))) ∧ Below W.heap.size W W' := ref_Mix f W
/-- One state in the box that the law makes first; the tables as they were laid. -/
structure Lw (w : World) (f : Nat → UInt32) (W : World) : Prop where
  st : St W w.heap.size f
  sm : Small W
  pl : Places W
  bel : Below w.heap.size w W
theorem Lw.new (w : World) (f : Nat → UInt32) (hT : Small w) (hP : Places w) : Lw w f (w.alloc (.cells (stv f) 30)) :=
  have b := (Below.refl _ w).alloc (Nat.le_refl _) (.cells (stv f) 30)
  ⟨Blk.new w _ _, hT.below b hT.1, hP.below b hP.1, b⟩
theorem Lw.below {w W W' : World} {f : Nat → UInt32} (h : Lw w f W) (hb : Below W.heap.size W W') : Lw w f W' := ⟨h.st.below hb h.st.lt, h.sm.below hb h.sm.1, h.pl.below hb h.pl.1, h.bel.trans (hb.mono h.bel.size)⟩
theorem Lw.drew {w W : World} {f : Nat → UInt32} (h : Lw w f W) : Lw w f W.drew := h.below (Below.refl _ W).drew
theorem Lw.all {w W : World} {f : Nat → UInt32} (h : Lw w f W) : W.cell? ⟨w.heap.size, 0, none⟩ = some (.int .u32 (f 0).toNat) ∧ W.cell? ⟨w.heap.size, 1, none⟩ = some (.int .u32 (f 1).toNat) ∧ W.cell? ⟨w.heap.size, 2, none⟩ = some (.int .u32 (f 2).toNat) ∧ W.cell? ⟨w.heap.size, 3, none⟩ = some (.int .u32 (f 3).toNat) ∧ W.cell? ⟨w.heap.size, 4, none⟩ = some (.int .u32 (f 4).toNat) ∧ W.cell? ⟨w.heap.size, 5, none⟩ = some (.int .u32 (f 5).toNat) ∧ W.cell? ⟨w.heap.size, 6, none⟩ = some (.int .u32 (f 6).toNat) ∧ W.cell? ⟨w.heap.size, 7, none⟩ = some (.int .u32 (f 7).toNat) ∧ Lw w f W :=
  ⟨h.st.cell 0 (by decide), h.st.cell 1 (by decide), h.st.cell 2 (by decide), h.st.cell 3 (by decide), h.st.cell 4 (by decide), h.st.cell 5 (by decide), h.st.cell 6 (by decide), h.st.cell 7 (by decide), h⟩
/-- Two. -/
structure Lw2 (w : World) (f g : Nat → UInt32) (W : World) : Prop where
  st : St W w.heap.size f
  st2 : St W (w.heap.size + 1) g
  sm : Small W
  pl : Places W
  bel : Below w.heap.size w W
theorem Lw2.new (w : World) (f g : Nat → UInt32) (hT : Small w) (hP : Places w) : Lw2 w f g ((w.alloc (.cells (stv f) 30)).alloc (.cells (stv g) 30)) :=
  have b := ((Below.refl _ w).alloc (Nat.le_refl _) (.cells (stv f) 30)).alloc (by simp) (.cells (stv g) 30)
  ⟨(Blk.new w _ _).alloc _, by have h := Blk.new (w.alloc (.cells (stv f) 30)) 30 (stv g); simpa [St] using h, hT.below b hT.1, hP.below b hP.1, b⟩
theorem Lw2.below {w W W' : World} {f g : Nat → UInt32} (h : Lw2 w f g W) (hb : Below W.heap.size W W') : Lw2 w f g W' := ⟨h.st.below hb h.st.lt, h.st2.below hb h.st2.lt, h.sm.below hb h.sm.1, h.pl.below hb h.pl.1, h.bel.trans (hb.mono h.bel.size)⟩
theorem Lw2.drew {w W : World} {f g : Nat → UInt32} (h : Lw2 w f g W) : Lw2 w f g W.drew := h.below (Below.refl _ W).drew
theorem Lw2.all {w W : World} {f g : Nat → UInt32} (h : Lw2 w f g W) : W.cell? ⟨w.heap.size, 0, none⟩ = some (.int .u32 (f 0).toNat) ∧ W.cell? ⟨w.heap.size, 1, none⟩ = some (.int .u32 (f 1).toNat) ∧ W.cell? ⟨w.heap.size, 2, none⟩ = some (.int .u32 (f 2).toNat) ∧ W.cell? ⟨w.heap.size, 3, none⟩ = some (.int .u32 (f 3).toNat) ∧ W.cell? ⟨w.heap.size, 4, none⟩ = some (.int .u32 (f 4).toNat) ∧ W.cell? ⟨w.heap.size, 5, none⟩ = some (.int .u32 (f 5).toNat) ∧ W.cell? ⟨w.heap.size, 6, none⟩ = some (.int .u32 (f 6).toNat) ∧ W.cell? ⟨w.heap.size, 7, none⟩ = some (.int .u32 (f 7).toNat) ∧ W.cell? ⟨w.heap.size + 1, 0, none⟩ = some (.int .u32 (g 0).toNat) ∧ W.cell? ⟨w.heap.size + 1, 1, none⟩ = some (.int .u32 (g 1).toNat) ∧ W.cell? ⟨w.heap.size + 1, 2, none⟩ = some (.int .u32 (g 2).toNat) ∧ W.cell? ⟨w.heap.size + 1, 3, none⟩ = some (.int .u32 (g 3).toNat) ∧ W.cell? ⟨w.heap.size + 1, 4, none⟩ = some (.int .u32 (g 4).toNat) ∧ W.cell? ⟨w.heap.size + 1, 5, none⟩ = some (.int .u32 (g 5).toNat) ∧ W.cell? ⟨w.heap.size + 1, 6, none⟩ = some (.int .u32 (g 6).toNat) ∧ W.cell? ⟨w.heap.size + 1, 7, none⟩ = some (.int .u32 (g 7).toNat) ∧ Lw2 w f g W :=
  ⟨h.st.cell 0 (by decide), h.st.cell 1 (by decide), h.st.cell 2 (by decide), h.st.cell 3 (by decide), h.st.cell 4 (by decide), h.st.cell 5 (by decide), h.st.cell 6 (by decide), h.st.cell 7 (by decide), h.st2.cell 0 (by decide), h.st2.cell 1 (by decide), h.st2.cell 2 (by decide), h.st2.cell 3 (by decide), h.st2.cell 4 (by decide), h.st2.cell 5 (by decide), h.st2.cell 6 (by decide), h.st2.cell 7 (by decide), h⟩
end Go.Proofs.YtekpfpikbgiblaaDoor
