/- ropewalklaw.two: what it gives. -/
import Derived.Test.YtmlomnhjbmocfaaDoorClone
import Derived.Test.YtmlomnhjbmocfaaDoorBC
import Derived.RegionTactic
import Derived.BigRegion
import Derived.Deep.DeepCutAuto
set_option linter.all false
namespace Go.Proofs.YtmlomnhjbmocfaaDoor
open Go.RowKit

def twoA : Prt := ⟨[⟨1, 1, ⟨#[]⟩, [9, 0, 0], 0, [⟨1, 2, ⟨#[102]⟩, 0, 0⟩]⟩], [⟨⟨#[109, 97, 105, 110]⟩, 1, 0, 0, 0, 0⟩]⟩
def twoB : Prt := ⟨[⟨1, 4, ⟨#[103]⟩, [7], 0, []⟩], [⟨⟨#[102]⟩, 1, 0, 0, 0, 0⟩]⟩

def TwoIs (w : World) (e : Ending) (w' : World) : Prop :=
  ∃ a b : PtM, e = .returned (.tuple #[.agg #[.slice a.fa a.frs.length a.fc, .slice a.da a.dfs.length a.dc], .agg #[.slice b.fa b.frs.length b.fc, .slice b.da b.dfs.length b.dc]]) ∧ a.Own w' w.heap.size ∧ b.Own w' w.heap.size ∧ a.er = twoA ∧ b.er = twoB ∧ Below w.heap.size w w'

def twoW (w : World) (g2 g3 g4 g5 g6 g7 g8 : Nat) : World :=
  ((((((((w.alloc (.cells #[.slice (some ⟨g4, 0, none⟩) 1 1, .slice (some ⟨g5, 0, none⟩) 1 1] 25)).alloc (.cells #[.slice (some ⟨g7, 0, none⟩) 1 1, .slice (some ⟨g8, 0, none⟩) 1 1] 25)).alloc (.cells #[.int .u8 9, .int .u8 0, .int .u8 0] 5)).alloc
    (.cells #[.int .i64 1, .int .i64 2, .string ⟨#[102]⟩, .int .i64 0, .int .i64 0] 93)).alloc (.cells #[.int .i64 1, .int .i64 1, .string ⟨#[]⟩, .slice (some ⟨g2, 0, none⟩) 3 3, .int .i64 0, .slice (some ⟨g3, 0, none⟩) 1 1] 63)).alloc
    (.cells #[.string ⟨#[109, 97, 105, 110]⟩, .int .i64 1, .int .i64 0, .int .i64 0, .int .i64 0, .int .i64 0] 70)).alloc (.cells #[.int .u8 7] 5)).alloc (.cells #[.int .i64 1, .int .i64 4, .string ⟨#[103]⟩, .slice (some ⟨g6, 0, none⟩) 1 1, .int .i64 0, .slice none 0 0] 63)).alloc
    (.cells #[.string ⟨#[102]⟩, .int .i64 1, .int .i64 0, .int .i64 0, .int .i64 0, .int .i64 0] 70)

set_option maxHeartbeats 4000000 in
theorem twoW_facts (w : World) (g1 g2 g3 g4 g5 g6 g7 g8 : Nat) (e1 : g1 = w.heap.size + 1) (e2 : g2 = w.heap.size + 2) (e3 : g3 = w.heap.size + 3) (e4 : g4 = w.heap.size + 4) (e5 : g5 = w.heap.size + 5) (e6 : g6 = w.heap.size + 6) (e7 : g7 = w.heap.size + 7) (e8 : g8 = w.heap.size + 8) :
    Blk (twoW w g2 g3 g4 g5 g6 g7 g8) w.heap.size 25 #[.slice (some ⟨g4, 0, none⟩) 1 1, .slice (some ⟨g5, 0, none⟩) 1 1] ∧ Blk (twoW w g2 g3 g4 g5 g6 g7 g8) g1 25 #[.slice (some ⟨g7, 0, none⟩) 1 1, .slice (some ⟨g8, 0, none⟩) 1 1] ∧
    Below w.heap.size w (twoW w g2 g3 g4 g5 g6 g7 g8) ∧ PtM.Own (twoW w g2 g3 g4 g5 g6 g7 g8) w.heap.size ⟨[⟨⟨1, 1, ⟨#[]⟩, [9, 0, 0], 0, [⟨1, 2, ⟨#[102]⟩, 0, 0⟩]⟩, some ⟨g2, 0, none⟩, 3, some ⟨g3, 0, none⟩, 1⟩], [⟨⟨#[109, 97, 105, 110]⟩, 1, 0, 0, 0, 0⟩], some ⟨g4, 0, none⟩, 1, some ⟨g5, 0, none⟩, 1⟩ ∧
    PtM.Own (twoW w g2 g3 g4 g5 g6 g7 g8) w.heap.size ⟨[⟨⟨1, 4, ⟨#[103]⟩, [7], 0, []⟩, some ⟨g6, 0, none⟩, 1, none, 0⟩], [⟨⟨#[102]⟩, 1, 0, 0, 0, 0⟩], some ⟨g7, 0, none⟩, 1, some ⟨g8, 0, none⟩, 1⟩ := by
  unfold twoW
  have h0 := Blk.new' w 25 #[.slice (some ⟨g4, 0, none⟩) 1 1, .slice (some ⟨g5, 0, none⟩) 1 1] (g := w.heap.size) rfl
  obtain ⟨W1, hW1⟩ : ∃ W, W = w.alloc (.cells #[.slice (some ⟨g4, 0, none⟩) 1 1, .slice (some ⟨g5, 0, none⟩) 1 1] 25) := ⟨_, rfl⟩
  have s1 : W1.heap.size = w.heap.size + 1 := by rw [hW1]; simp
  have b1 : Below w.heap.size w W1 := by rw [hW1]; (repeat' (first | exact Below.refl _ _ | assumption | refine Below.setCell ?_ (by first | omega | exact Below.size (by assumption) | (simp; done) | (simp; omega)) _ | refine Below.alloc ?_ (by first | omega | exact Below.size (by assumption) | (simp; done) | (simp; omega)) _ | refine Below.drew ?_ | refine below_drewN ?_ _))
  rw [← hW1] at h0 ⊢
  have h1 := Blk.new' W1 25 #[.slice (some ⟨g7, 0, none⟩) 1 1, .slice (some ⟨g8, 0, none⟩) 1 1] (g := g1) (by omega)
  have h2 := Blk.new' (W1.alloc (.cells #[.slice (some ⟨g7, 0, none⟩) 1 1, .slice (some ⟨g8, 0, none⟩) 1 1] 25)) 5 #[.int .u8 9, .int .u8 0, .int .u8 0] (g := g2) (by simp; omega)
  have h0 := (h0.alloc (.cells #[.slice (some ⟨g7, 0, none⟩) 1 1, .slice (some ⟨g8, 0, none⟩) 1 1] 25)).alloc (.cells #[.int .u8 9, .int .u8 0, .int .u8 0] 5)
  have h1 := h1.alloc (.cells #[.int .u8 9, .int .u8 0, .int .u8 0] 5)
  obtain ⟨W2, hW2⟩ : ∃ W, W = (W1.alloc (.cells #[.slice (some ⟨g7, 0, none⟩) 1 1, .slice (some ⟨g8, 0, none⟩) 1 1] 25)).alloc (.cells #[.int .u8 9, .int .u8 0, .int .u8 0] 5) := ⟨_, rfl⟩
  have s2 : W2.heap.size = w.heap.size + 3 := by rw [hW2]; simp; omega
  have b2 : Below w.heap.size w W2 := by rw [hW2]; exact (b1.alloc (by omega) _).alloc (by simp; omega) _
  rw [← hW2] at h0 h1 h2 ⊢
  clear hW1 hW2 b1 s1
  have h3 := Blk.new' W2 93 #[.int .i64 1, .int .i64 2, .string ⟨#[102]⟩, .int .i64 0, .int .i64 0] (g := g3) (by omega)
  have h0 := h0.alloc (.cells #[.int .i64 1, .int .i64 2, .string ⟨#[102]⟩, .int .i64 0, .int .i64 0] 93)
  have h1 := h1.alloc (.cells #[.int .i64 1, .int .i64 2, .string ⟨#[102]⟩, .int .i64 0, .int .i64 0] 93)
  have h2 := h2.alloc (.cells #[.int .i64 1, .int .i64 2, .string ⟨#[102]⟩, .int .i64 0, .int .i64 0] 93)
  obtain ⟨W3, hW3⟩ : ∃ W, W = W2.alloc (.cells #[.int .i64 1, .int .i64 2, .string ⟨#[102]⟩, .int .i64 0, .int .i64 0] 93) := ⟨_, rfl⟩
  have s3 : W3.heap.size = w.heap.size + 4 := by rw [hW3]; simp; omega
  have b3 : Below w.heap.size w W3 := by rw [hW3]; exact b2.alloc (by omega) _
  rw [← hW3] at h0 h1 h2 h3 ⊢
  clear hW3 b2 s2
  have f1 := own_of_blk h2 (base := w.heap.size) (size := 1) (n := 3) (by omega) rfl (by omega)
  have f2 := own_of_blk h3 (base := w.heap.size) (size := 5) (n := 1) (by omega) rfl (by omega)
  have h4 := Blk.new' W3 63 #[.int .i64 1, .int .i64 1, .string ⟨#[]⟩, .slice (some ⟨g2, 0, none⟩) 3 3, .int .i64 0, .slice (some ⟨g3, 0, none⟩) 1 1] (g := g4) (by omega)
  have h5 := Blk.new' (W3.alloc (.cells #[.int .i64 1, .int .i64 1, .string ⟨#[]⟩, .slice (some ⟨g2, 0, none⟩) 3 3, .int .i64 0, .slice (some ⟨g3, 0, none⟩) 1 1] 63)) 70 #[.string ⟨#[109, 97, 105, 110]⟩, .int .i64 1, .int .i64 0, .int .i64 0, .int .i64 0, .int .i64 0] (g := g5) (by simp; omega)
  have h4 := h4.alloc (.cells #[.string ⟨#[109, 97, 105, 110]⟩, .int .i64 1, .int .i64 0, .int .i64 0, .int .i64 0, .int .i64 0] 70)
  obtain ⟨W5, hW5⟩ : ∃ W, W = (W3.alloc (.cells #[.int .i64 1, .int .i64 1, .string ⟨#[]⟩, .slice (some ⟨g2, 0, none⟩) 3 3, .int .i64 0, .slice (some ⟨g3, 0, none⟩) 1 1] 63)).alloc (.cells #[.string ⟨#[109, 97, 105, 110]⟩, .int .i64 1, .int .i64 0, .int .i64 0, .int .i64 0, .int .i64 0] 70) := ⟨_, rfl⟩
  have s5 : W5.heap.size = w.heap.size + 6 := by rw [hW5]; simp; omega
  have t5 : Below W3.heap.size W3 W5 := by rw [hW5]; (repeat' (first | exact Below.refl _ _ | assumption | refine Below.setCell ?_ (by first | omega | exact Below.size (by assumption) | (simp; done) | (simp; omega)) _ | refine Below.alloc ?_ (by first | omega | exact Below.size (by assumption) | (simp; done) | (simp; omega)) _ | refine Below.drew ?_ | refine below_drewN ?_ _))
  rw [← hW5] at h4 h5 ⊢
  clear hW5
  have h0 := h0.all t5
  have h1 := h1.all t5
  have f1 := own_all f1 t5
  have f2 := own_all f2 t5
  have b5 := b3.trans (t5.mono b3.size)
  clear h2 h3 b3 t5
  have f3 := own_of_blk h4 (base := w.heap.size) (size := 6) (n := 1) (by omega) rfl (by omega)
  have f4 := own_of_blk h5 (base := w.heap.size) (size := 6) (n := 1) (by omega) rfl (by omega)
  have h6 := Blk.new' W5 5 #[.int .u8 7] (g := g6) (by omega)
  have h6 := (h6.alloc (.cells #[.int .i64 1, .int .i64 4, .string ⟨#[103]⟩, .slice (some ⟨g6, 0, none⟩) 1 1, .int .i64 0, .slice none 0 0] 63)).alloc (.cells #[.string ⟨#[102]⟩, .int .i64 1, .int .i64 0, .int .i64 0, .int .i64 0, .int .i64 0] 70)
  have h7 := (Blk.new' (W5.alloc (.cells #[.int .u8 7] 5)) 63 #[.int .i64 1, .int .i64 4, .string ⟨#[103]⟩, .slice (some ⟨g6, 0, none⟩) 1 1, .int .i64 0, .slice none 0 0] (g := g7) (by simp; omega)).alloc (.cells #[.string ⟨#[102]⟩, .int .i64 1, .int .i64 0, .int .i64 0, .int .i64 0, .int .i64 0] 70)
  have h8 := Blk.new' ((W5.alloc (.cells #[.int .u8 7] 5)).alloc (.cells #[.int .i64 1, .int .i64 4, .string ⟨#[103]⟩, .slice (some ⟨g6, 0, none⟩) 1 1, .int .i64 0, .slice none 0 0] 63)) 70 #[.string ⟨#[102]⟩, .int .i64 1, .int .i64 0, .int .i64 0, .int .i64 0, .int .i64 0] (g := g8) (by simp; omega)
  obtain ⟨W8, hW8⟩ : ∃ W, W = ((W5.alloc (.cells #[.int .u8 7] 5)).alloc (.cells #[.int .i64 1, .int .i64 4, .string ⟨#[103]⟩, .slice (some ⟨g6, 0, none⟩) 1 1, .int .i64 0, .slice none 0 0] 63)).alloc (.cells #[.string ⟨#[102]⟩, .int .i64 1, .int .i64 0, .int .i64 0, .int .i64 0, .int .i64 0] 70) := ⟨_, rfl⟩
  have t8 : Below W5.heap.size W5 W8 := by rw [hW8]; (repeat' (first | exact Below.refl _ _ | assumption | refine Below.setCell ?_ (by first | omega | exact Below.size (by assumption) | (simp; done) | (simp; omega)) _ | refine Below.alloc ?_ (by first | omega | exact Below.size (by assumption) | (simp; done) | (simp; omega)) _ | refine Below.drew ?_ | refine below_drewN ?_ _))
  rw [← hW8] at h6 h7 h8 ⊢
  clear hW8
  have f1 := own_all f1 t8
  have f2 := own_all f2 t8
  have f3 := own_all f3 t8
  have f4 := own_all f4 t8
  have f6 := own_of_blk h6 (base := w.heap.size) (size := 1) (n := 1) (by omega) rfl (by omega)
  have f7 := own_of_blk h7 (base := w.heap.size) (size := 6) (n := 1) (by omega) rfl (by omega)
  have f8 := own_of_blk h8 (base := w.heap.size) (size := 6) (n := 1) (by omega) rfl (by omega)
  refine ⟨h0.all t8, h1.all t8, b5.trans (t8.mono b5.size), ⟨f3, f4, fun x hx => ?_, List.pairwise_singleton _ _⟩, ⟨f7, f8, fun x hx => ?_, List.pairwise_singleton _ _⟩⟩
  · obtain rfl := List.mem_singleton.1 hx
    exact ⟨f1, f2⟩
  · obtain rfl := List.mem_singleton.1 hx
    exact ⟨f6, World.ownsRow_nil _ _ _ _⟩

set_option maxHeartbeats 4000000 in
theorem two_any (w : World) : Calls Tryd.prog 49 #[] w (TwoIs w) := by
  unfold TwoIs
  go_enter Tryd.func49, Tryd.ntmps49
  go_upto_region 3 with (fail)
  obtain ⟨g8, e8⟩ : ∃ g, g = w.heap.size + 1 + 1 + 1 + 1 + 1 + 1 + 1 + 1 := ⟨_, rfl⟩
  obtain ⟨g7, e7⟩ : ∃ g, g = w.heap.size + 1 + 1 + 1 + 1 + 1 + 1 + 1 := ⟨_, rfl⟩
  obtain ⟨g6, e6⟩ : ∃ g, g = w.heap.size + 1 + 1 + 1 + 1 + 1 + 1 := ⟨_, rfl⟩
  obtain ⟨g5, e5⟩ : ∃ g, g = w.heap.size + 1 + 1 + 1 + 1 + 1 := ⟨_, rfl⟩
  obtain ⟨g4, e4⟩ : ∃ g, g = w.heap.size + 1 + 1 + 1 + 1 := ⟨_, rfl⟩
  obtain ⟨g3, e3⟩ : ∃ g, g = w.heap.size + 1 + 1 + 1 := ⟨_, rfl⟩
  obtain ⟨g2, e2⟩ : ∃ g, g = w.heap.size + 1 + 1 := ⟨_, rfl⟩
  obtain ⟨g1, e1⟩ : ∃ g, g = w.heap.size + 1 := ⟨_, rfl⟩
  rw [← e8, ← e7, ← e6, ← e5, ← e4, ← e3, ← e2, ← e1]
  obtain ⟨hA, hB, hb, oA, oB⟩ := twoW_facts w g1 g2 g3 g4 g5 g6 g7 g8 e1 e2 e3 e4 e5 e6 e7 e8
  obtain ⟨W, hW⟩ : ∃ W, W = twoW w g2 g3 g4 g5 g6 g7 g8 := ⟨_, rfl⟩
  rw [← hW] at hA hB hb oA oB
  unfold twoW at hW
  rw [← hW]
  have hg1 : w.heap.size < g1 := by omega
  clear hW e1 e2 e3 e4 e5 e6 e7 e8
  have a0 := hA.cell 0
  have a1 := hA.cell 1
  have a2 := hA.frozen 0
  have a3 := hA.frozen 1
  have b0 := hB.cell 0
  have b1 := hB.cell 1
  have b2 := hB.frozen 0
  have b3 := hB.frozen 1
  have n1 : w.heap.size ≠ g1 := by omega
  have hA1 := hA.set_ 0 (.slice (some ⟨g4, 0, none⟩) 1 1)
  have hA2 := hA1.set_ 1 (.slice (some ⟨g5, 0, none⟩) 1 1)
  have hB2 := (hB.far (p := ⟨w.heap.size, 0, none⟩) n1.symm (.slice (some ⟨g4, 0, none⟩) 1 1)).far (p := ⟨w.heap.size, 1, none⟩) n1.symm (.slice (some ⟨g5, 0, none⟩) 1 1)
  have hB3 := hB2.set_ 0 (.slice (some ⟨g7, 0, none⟩) 1 1)
  have hB4 := (hB3.set_ 1 (.slice (some ⟨g8, 0, none⟩) 1 1)).drew
  have hA4 := ((hA2.far (p := ⟨g1, 0, none⟩) n1 (.slice (some ⟨g7, 0, none⟩) 1 1)).far (p := ⟨g1, 1, none⟩) n1 (.slice (some ⟨g8, 0, none⟩) 1 1)).drew
  have oA4 := ((((oA.blk hA (by decide) (by decide) (by decide) (by decide) _ (j := 0)).blk hA1 (by decide) (by decide) (by decide) (by decide) _ (j := 1)).blk hB2 (by decide) (by decide) (by decide) (by decide) (.slice (some ⟨g7, 0, none⟩) 1 1) (j := 0)).blk hB3 (by decide) (by decide) (by decide) (by decide) (.slice (some ⟨g8, 0, none⟩) 1 1) (j := 1)).drew
  have oB4 := ((((oB.blk hA (by decide) (by decide) (by decide) (by decide) _ (j := 0)).blk hA1 (by decide) (by decide) (by decide) (by decide) _ (j := 1)).blk hB2 (by decide) (by decide) (by decide) (by decide) (.slice (some ⟨g7, 0, none⟩) 1 1) (j := 0)).blk hB3 (by decide) (by decide) (by decide) (by decide) (.slice (some ⟨g8, 0, none⟩) 1 1) (j := 1)).drew
  have hb4 := ((((hb.setCell (p := ⟨w.heap.size, 0, none⟩) (Nat.le_refl _) (.slice (some ⟨g4, 0, none⟩) 1 1)).setCell (p := ⟨w.heap.size, 1, none⟩) (Nat.le_refl _) (.slice (some ⟨g5, 0, none⟩) 1 1)).setCell (p := ⟨g1, 0, none⟩) (Nat.le_of_lt hg1) (.slice (some ⟨g7, 0, none⟩) 1 1)).setCell (p := ⟨g1, 1, none⟩) (Nat.le_of_lt hg1) (.slice (some ⟨g8, 0, none⟩) 1 1)).drew
  have x0 := hA4.cell 0
  have x1 := hA4.cell 1
  have y0 := hB4.cell 0
  have y1 := hB4.cell 1
  go_region
  go_wp2
  refine bodyPost_ret (v := .tuple #[.agg #[.slice (some ⟨g4, 0, none⟩) 1 1, .slice (some ⟨g5, 0, none⟩) 1 1], .agg #[.slice (some ⟨g7, 0, none⟩) 1 1, .slice (some ⟨g8, 0, none⟩) 1 1]]) (by simp [results, Tryd.results49, go_sem, x0, x1, y0, y1]) rfl ⟨_, _, rfl, oA4, oB4, rfl, rfl, hb4⟩
end Go.Proofs.YtmlomnhjbmocfaaDoor
