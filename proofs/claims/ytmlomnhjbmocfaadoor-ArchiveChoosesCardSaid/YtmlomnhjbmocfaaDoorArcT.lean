/- ropewalklaw.taken: the closed fact of the archives: it holds. -/
import Derived.Test.YtmlomnhjbmocfaaDoorArcF
import Derived.Test.YtmlomnhjbmocfaaDoorArcW
import Derived.Test.YtmlomnhjbmocfaaDoorRefOwn
import Derived.Test.YtmlomnhjbmocfaaDoorSameW
import Derived.Deep.RegionHeld3
set_option linter.all false
namespace Go.Proofs.YtmlomnhjbmocfaaDoor
open Go.RowKit

/-- A part of one fragment and one definition, its rows known whole. -/
theorem own_one {w : World} {base gf gd : Nat} {x : FgM} {d : Df} (hf : Blk w gf 63 x.cells.toArray) (hd : Blk w gd 70 d.cells.toArray) (hx : x.Own w base) (h1 : base ≤ gf) (h2 : base ≤ gd) : PtM.Own w base ⟨[x], [d], some ⟨gf, 0, none⟩, 1, some ⟨gd, 0, none⟩, 1⟩ := by
  have f := own_of_blk hf (base := base) (size := 6) (n := 1) h1 rfl (by omega)
  have g := own_of_blk hd (base := base) (size := 6) (n := 1) h2 rfl (by omega)
  refine ⟨?_, ?_, fun y hy => ?_, List.pairwise_singleton _ _⟩
  · exact f
  · exact g
  · obtain rfl := List.mem_singleton.1 hy
    exact hx
theorem pts_of_blk {w : World} {g : Nat} {l : List PtM} (h : Blk w g 25 (ptsV l).toArray) (he : ∀ p ∈ l, p.At w w.heap.size) : PtsAt w w.heap.size (some ⟨g, 0, none⟩) l :=
  ⟨by
    have := h.reads (size := 2) (n := l.length) (by
      rw [List.size_toArray]
      unfold ptsV
      exact flatMap_len (cells := PtM.cells) (k := 2) (fun _ => rfl) l)
    simpa using this, he⟩

def tkxC : FgM := ⟨⟨2, 1, ⟨#[]⟩, [], 0, []⟩, none, 0, none, 0⟩
def tkdC : Df := ⟨⟨#[122]⟩, 1, 0, 0, 0, 0⟩
def tkpC (gf gd : Nat) : PtM := ⟨[tkxC], [tkdC], some ⟨gf, 0, none⟩, 1, some ⟨gd, 0, none⟩, 1⟩
def tkxW (gb : Nat) : FgM := ⟨⟨4, 2, ⟨#[]⟩, [5], 0, []⟩, some ⟨gb, 0, none⟩, 1, none, 0⟩
def tkdW : Df := ⟨⟨#[119]⟩, 2, 0, 0, 0, 0⟩
def tkpW (gb gf gd : Nat) : PtM := ⟨[tkxW gb], [tkdW], some ⟨gf, 0, none⟩, 1, some ⟨gd, 0, none⟩, 1⟩
theorem own_cur {w : World} {base size n g cap : Nat} {t : TypeId} {xs : List Value} (h : w.ownsRow base t size (.slice (some ⟨g, 0, none⟩) n cap) n xs) : ∃ cur, Blk w g t cur := by
  rcases h.2 with ⟨h', _⟩ | ⟨g', cap', cur, h', hb, hg, _⟩
  · simp at h'
  · simp only [Value.slice.injEq, Option.some.injEq, Addr.mk.injEq, and_true, true_and] at h'
    obtain ⟨rfl, rfl⟩ := h'
    exact ⟨cur, hg⟩
theorem one_copy {q : PtM} (h : q.er = twoB) : ∃ y d, q.frs = [y] ∧ q.dfs = [d] ∧ y.f = ⟨1, 4, ⟨#[103]⟩, [7], 0, []⟩ ∧ d = ⟨⟨#[102]⟩, 1, 0, 0, 0, 0⟩ := by
  have h1 : q.frs.map FgM.f = twoB.frs := congrArg Prt.frs h
  have h2 : q.dfs = twoB.dfs := congrArg Prt.dfs h
  rcases hq : q.frs with _ | ⟨y, _ | ⟨y2, r⟩⟩
  · rw [hq] at h1; simp [twoB] at h1
  · rw [hq] at h1
    simp [twoB] at h1
    exact ⟨y, _, rfl, h2, h1, rfl⟩
  · rw [hq] at h1; simp [twoB] at h1
/-- A place put into the fragment of a copy. -/
theorem own_put {w : World} {base gq gr c : Nat} {y : FgM} {d : Df} {da : Option Addr} {dc : Nat} (h : PtM.Own w base ⟨[y], [d], some ⟨gq, 0, none⟩, c, da, dc⟩) (r : Rel) (hr : Blk w gr 93 r.cells.toArray) (hb : base ≤ gr) :
    PtM.Own (w.setCell ⟨gq, 5, none⟩ (.slice (some ⟨gr, 0, none⟩) 1 1)) base ⟨[⟨{ y.f with rs := [r] }, y.ba, y.bc, some ⟨gr, 0, none⟩, 1⟩], [d], some ⟨gq, 0, none⟩, c, da, dc⟩ := by
  have h1 := (h.fr.stored 5 (.slice (some ⟨gr, 0, none⟩) 1 1)).1
  have hy := h.each y (by simp)
  refine ⟨h1, own_setCell h.df (own_ne_own h.fr h.df (by decide) (g := gq) rfl) _, fun z hz => ?_, List.pairwise_singleton _ _⟩
  obtain rfl := List.mem_singleton.1 hz
  have hrow := own_of_blk hr (base := base) (size := 5) (n := 1) hb rfl (by omega)
  exact ⟨own_setCell hy.by_ (own_ne_own h.fr hy.by_ (by decide) (g := gq) rfl) _, own_setCell hrow (own_ne_own h.fr hrow (by decide) (g := gq) rfl) _⟩

set_option maxRecDepth 100000 in
set_option maxHeartbeats 20000000 in
theorem taken_any (w : World) : Calls Tryd.prog 16 #[] w fun e w' => e = .returned (.bool true) ∧ Below w.heap.size w w' := by
  go_enter Tryd.func16, Tryd.ntmps16
  go_wp2_with fail
  refine (two_any w).mono ?_
  rintro e w1 ⟨p1, p2, rfl, oa, ob, ea, eb, hb1⟩
  go_upto_region 2 with (fail)
  have hs := (Below.refl w1.heap.size w1).alloc (Nat.le_refl _) (.cells #[.slice (p1).fa (p1).frs.length (p1).fc, .slice (p1).da (p1).dfs.length (p1).dc] 25)
  have hs := hs.alloc (by simp) (.cells #[.slice (p2).fa (p2).frs.length (p2).fc, .slice (p2).da (p2).dfs.length (p2).dc] 25)
  have k1 := (Blk.new w1 25 #[.slice p1.fa p1.frs.length p1.fc, .slice p1.da p1.dfs.length p1.dc]).alloc (.cells #[.slice (p2).fa (p2).frs.length (p2).fc, .slice (p2).da (p2).dfs.length (p2).dc] 25)
  have k2 := Blk.new' (w1.alloc (.cells #[.slice (p1).fa (p1).frs.length (p1).fc, .slice (p1).da (p1).dfs.length (p1).dc] 25)) 25 #[.slice p2.fa p2.frs.length p2.fc, .slice p2.da p2.dfs.length p2.dc] (g := w1.heap.size + 1) (by simp)
  replace oa := oa.all hs
  replace ob := ob.all hs
  have hB := hb1.trans (hs.mono hb1.size)
  obtain ⟨W, hW⟩ : ∃ W', W' = (w1.alloc (.cells #[.slice (p1).fa (p1).frs.length (p1).fc, .slice (p1).da (p1).dfs.length (p1).dc] 25)).alloc (.cells #[.slice (p2).fa (p2).frs.length (p2).fc, .slice (p2).da (p2).dfs.length (p2).dc] 25) := ⟨_, rfl⟩
  obtain ⟨g2, hg2⟩ : ∃ g, g = w1.heap.size + 1 := ⟨_, rfl⟩
  obtain ⟨g1, hg1⟩ : ∃ g, g = w1.heap.size := ⟨_, rfl⟩
  rw [← hg2] at k2 ⊢
  rw [← hg1] at k1 ⊢
  rw [← hW] at k1 k2 oa ob hB ⊢
  clear hW hg1 hg2 hs hb1
  go_upto_region 3 with (fail)
  obtain ⟨gd, hgd⟩ : ∃ g, g = W.heap.size + 1 := ⟨_, rfl⟩
  obtain ⟨g3, hg3⟩ : ∃ g, g = W.heap.size + 1 + 1 := ⟨_, rfl⟩
  obtain ⟨gf, hgf⟩ : ∃ g, g = W.heap.size := ⟨_, rfl⟩
  rw [← hg3, ← hgd, ← hgf]
  have hs := (((Below.refl W.heap.size W).alloc (Nat.le_refl _) (.cells tkxC.cells.toArray 63)).alloc (by simp <;> omega) (.cells tkdC.cells.toArray 70)).alloc (by simp <;> omega) (.cells #[.slice (some ⟨gf, 0, none⟩) 1 1, .slice (some ⟨gd, 0, none⟩) 1 1] 25)
  have kf := ((Blk.new' W 63 tkxC.cells.toArray hgf).alloc (.cells tkdC.cells.toArray 70)).alloc (.cells #[.slice (some ⟨gf, 0, none⟩) 1 1, .slice (some ⟨gd, 0, none⟩) 1 1] 25)
  have kd := (Blk.new' (W.alloc (.cells tkxC.cells.toArray 63)) 70 tkdC.cells.toArray (g := gd) (by simp; exact hgd)).alloc (.cells #[.slice (some ⟨gf, 0, none⟩) 1 1, .slice (some ⟨gd, 0, none⟩) 1 1] 25)
  have k3 := Blk.new' ((W.alloc (.cells tkxC.cells.toArray 63)).alloc (.cells tkdC.cells.toArray 70)) 25 #[.slice (some ⟨gf, 0, none⟩) 1 1, .slice (some ⟨gd, 0, none⟩) 1 1] (g := g3) (by simp; exact hg3)
  have hBW := hB.size
  have oc := own_one (x := tkxC) (d := tkdC) (base := W.heap.size) kf kd ⟨World.ownsRow_nil _ _ _ _, World.ownsRow_nil _ _ _ _⟩ (by omega) (by omega)
  replace oa := oa.all hs
  replace ob := ob.all hs
  replace k1 := k1.all hs
  replace k2 := k2.all hs
  replace hB := hB.trans (hs.mono hB.size)
  clear kf kd
  obtain ⟨W3, hW3⟩ : ∃ W', W' = ((W.alloc (.cells tkxC.cells.toArray 63)).alloc (.cells tkdC.cells.toArray 70)).alloc (.cells #[.slice (some ⟨gf, 0, none⟩) 1 1, .slice (some ⟨gd, 0, none⟩) 1 1] 25) := ⟨_, rfl⟩
  rw [show ((W.alloc (.cells #[.int .i64 2, .int .i64 1, .string ⟨#[]⟩, .slice none 0 0, .int .i64 0, .slice none 0 0] 63)).alloc (.cells #[.string ⟨#[122]⟩, .int .i64 1, .int .i64 0, .int .i64 0, .int .i64 0, .int .i64 0] 70)).alloc (.cells #[.slice (some ⟨gf, 0, none⟩) 1 1, .slice (some ⟨gd, 0, none⟩) 1 1] 25) = W3 from hW3.symm]
  rw [← hW3] at k1 k2 k3 oa ob oc hB
  clear hW3 hs hgd hgf hg3
  have x0 := k2.cell 0
  have x1 := k2.cell 1
  have hfit : PtM.Fit p2 := by
    obtain ⟨y, d, h1, h2, h3, h4⟩ := one_copy eb
    exact ⟨by rw [h1]; simp, by rw [h2]; simp, fun x hx => by rw [h1] at hx; obtain rfl := List.mem_singleton.1 hx; rw [h3]; simp, fun x hx => by rw [h1] at hx; obtain rfl := List.mem_singleton.1 hx; rw [h3]; simp⟩
  go_wp2_with fail
  refine (refOwn_any p2 W3 ob.at_ hfit).mono ?_
  rintro e w4 ⟨q, rfl, oq, eq, hb4⟩
  rw [eb] at eq
  obtain ⟨y, d, hq1, hq2, hq3, hq4⟩ := one_copy eq
  obtain ⟨qf, qd, qa, qc, qda, qdc⟩ := q
  dsimp only at hq1 hq2
  subst hq1 hq2
  obtain ⟨gq, cq, hqv, hqb, _⟩ := oq.fr.form (by simp)
  injection hqv with hqv _ hcap
  simp only at hqv hcap
  subst hqv hcap
  dsimp only
  have oa3 := oa
  have oc3 := oc
  have hB3 := hB
  replace k1 := k1.all hb4
  replace k3 := k3.all hb4
  replace oa := oa.all hb4
  replace oc := oc.all hb4
  replace hB := hB.trans (hb4.mono hB.size)
  have hz3 := hb4.size
  clear x0 x1 ob k2 hfit eq
  obtain ⟨bq, oq', eqa, _, y0, y1, y2, y3, y4, y5⟩ := fg_get (Reads.of_own oq.fr) (i := 0) (x := y) rfl
  injection eqa with eqa
  injection eqa with e1 e2
  subst e1 e2
  obtain ⟨cur, kq⟩ := own_cur oq.fr
  have fq := kq.frozen 5
  go_upto_region 4 with (fail)
  obtain ⟨gr, hgr⟩ : ∃ g, g = w4.heap.size + 1 := ⟨_, rfl⟩
  obtain ⟨g4, hg4⟩ : ∃ g, g = w4.heap.size := ⟨_, rfl⟩
  go_upto_region 5 with (fail)
  rw [← hgr, ← hg4]
  have rC : Rel := ⟨0, 1, ⟨#[119]⟩, 0, 0⟩
  have hs := ((Below.refl w4.heap.size w4).alloc (Nat.le_refl _) (.cells #[.slice (some ⟨gq, 0, none⟩) 1 qc, .slice qda 1 qdc] 25)).alloc (by simp) (.cells #[.int .i64 0, .int .i64 1, .string ⟨#[119]⟩, .int .i64 0, .int .i64 0] 93)
  have k4 := (Blk.new' w4 25 #[.slice (some ⟨gq, 0, none⟩) 1 qc, .slice qda 1 qdc] hg4).alloc (.cells #[.int .i64 0, .int .i64 1, .string ⟨#[119]⟩, .int .i64 0, .int .i64 0] 93)
  have kr := Blk.new' (w4.alloc (.cells #[.slice (some ⟨gq, 0, none⟩) 1 qc, .slice qda 1 qdc] 25)) 93 #[.int .i64 0, .int .i64 1, .string ⟨#[119]⟩, .int .i64 0, .int .i64 0] (g := gr) (by simp; exact hgr)
  replace oq := oq.all hs
  replace kq := kq.all hs
  obtain ⟨W5, hW5⟩ : ∃ W', W' = (w4.alloc (.cells #[.slice (some ⟨gq, 0, none⟩) 1 qc, .slice qda 1 qdc] 25)).alloc (.cells #[.int .i64 0, .int .i64 1, .string ⟨#[119]⟩, .int .i64 0, .int .i64 0] 93) := ⟨_, rfl⟩
  rw [← hW5] at hs k4 kr oq kq
  have hz5 : W5.heap.size = w4.heap.size + 2 := by rw [hW5]; simp
  have oD := own_put (r := ⟨0, 1, ⟨#[119]⟩, 0, 0⟩) oq kr (by omega)
  have hs35 : Below W3.heap.size W3 (W5.setCell ⟨gq, 5, none⟩ (.slice (some ⟨gr, 0, none⟩) 1 1)) := (hb4.trans (hs.mono hz3)).setCell hqb _
  have k1' := (k1.all hs).far (k1.all hs |>.ne_ kq (by decide)) (p := ⟨gq, 5, none⟩) (.slice (some ⟨gr, 0, none⟩) 1 1)
  have k3' := (k3.all hs).far (k3.all hs |>.ne_ kq (by decide)) (p := ⟨gq, 5, none⟩) (.slice (some ⟨gr, 0, none⟩) 1 1)
  have k4' := k4.far (k4.ne_ kq (by decide)) (p := ⟨gq, 5, none⟩) (.slice (some ⟨gr, 0, none⟩) 1 1)
  have oa' := oa3.all hs35
  have oc' := oc3.all hs35
  have hB5 := hB3.trans (hs35.mono hB3.size)
  have hcomm : W5.setCell ⟨gq, 5, none⟩ (.slice (some ⟨gr, 0, none⟩) 1 1) = ((w4.setCell ⟨gq, 5, none⟩ (.slice (some ⟨gr, 0, none⟩) 1 1)).alloc (.cells #[.slice (some ⟨gq, 0, none⟩) 1 qc, .slice qda 1 qdc] 25)).alloc (.cells #[.int .i64 0, .int .i64 1, .string ⟨#[119]⟩, .int .i64 0, .int .i64 0] 93) := by
    rw [hW5, World.setCell_alloc_past _ _ _ _ (by simp; omega), World.setCell_alloc_past _ _ _ _ (by omega)]
  rw [← hcomm]
  obtain ⟨W6, hW6⟩ : ∃ W', W' = W5.setCell ⟨gq, 5, none⟩ (.slice (some ⟨gr, 0, none⟩) 1 1) := ⟨_, rfl⟩
  rw [← hW6] at oD k1' k3' k4' oa' oc' hB5 ⊢
  replace oD := oD.mono (base' := w.heap.size) (Nat.le_trans hB3.size (Nat.le_refl _))
  replace oc' := oc'.mono (base' := w.heap.size) hBW
  clear hcomm hW6 hs35 hs k4 kr oq kq k1 k3 oa oc hB hz5 hW5 oa3 oc3 hB3 hqb hz3 y0 y1 y2 y3 y4 y5 fq hgr hb4 hg4 rC hBW
  go_upto_region 6 with (fail)
  obtain ⟨g5, hg5⟩ : ∃ g, g = W6.heap.size + 1 + 1 + 1 := ⟨_, rfl⟩
  obtain ⟨gd2, hgd2⟩ : ∃ g, g = W6.heap.size + 1 + 1 := ⟨_, rfl⟩
  obtain ⟨gf2, hgf2⟩ : ∃ g, g = W6.heap.size + 1 := ⟨_, rfl⟩
  obtain ⟨gb, hgb⟩ : ∃ g, g = W6.heap.size := ⟨_, rfl⟩
  rw [← hg5, ← hgd2, ← hgf2, ← hgb]
  have hs := ((((Below.refl W6.heap.size W6).alloc (Nat.le_refl _) (.cells #[.int .u8 5] 5)).alloc (by simp <;> omega) (.cells (tkxW gb).cells.toArray 63)).alloc (by simp <;> omega) (.cells tkdW.cells.toArray 70)).alloc (by simp <;> omega) (.cells #[.slice (some ⟨gf2, 0, none⟩) 1 1, .slice (some ⟨gd2, 0, none⟩) 1 1] 25)
  have kb := (((Blk.new' W6 5 #[.int .u8 5] hgb).alloc (.cells (tkxW gb).cells.toArray 63)).alloc (.cells tkdW.cells.toArray 70)).alloc (.cells #[.slice (some ⟨gf2, 0, none⟩) 1 1, .slice (some ⟨gd2, 0, none⟩) 1 1] 25)
  have kf := ((Blk.new' (W6.alloc (.cells #[.int .u8 5] 5)) 63 (tkxW gb).cells.toArray (g := gf2) (by simp; exact hgf2)).alloc (.cells tkdW.cells.toArray 70)).alloc (.cells #[.slice (some ⟨gf2, 0, none⟩) 1 1, .slice (some ⟨gd2, 0, none⟩) 1 1] 25)
  have kd := (Blk.new' ((W6.alloc (.cells #[.int .u8 5] 5)).alloc (.cells (tkxW gb).cells.toArray 63)) 70 tkdW.cells.toArray (g := gd2) (by simp; exact hgd2)).alloc (.cells #[.slice (some ⟨gf2, 0, none⟩) 1 1, .slice (some ⟨gd2, 0, none⟩) 1 1] 25)
  have k5 := Blk.new' (((W6.alloc (.cells #[.int .u8 5] 5)).alloc (.cells (tkxW gb).cells.toArray 63)).alloc (.cells tkdW.cells.toArray 70)) 25 #[.slice (some ⟨gf2, 0, none⟩) 1 1, .slice (some ⟨gd2, 0, none⟩) 1 1] (g := g5) (by simp; exact hg5)
  have hb6 := hB5.size
  have oW := own_one (x := tkxW gb) (d := tkdW) (base := w.heap.size) kf kd ⟨own_of_blk kb (base := w.heap.size) (size := 1) (n := 1) (by omega) rfl (by omega), World.ownsRow_nil _ _ _ _⟩ (by omega) (by omega)
  replace oa' := oa'.all hs
  replace oc' := oc'.all hs
  replace oD := oD.all hs
  replace k1' := k1'.all hs
  replace k3' := k3'.all hs
  replace k4' := k4'.all hs
  replace hB5 := hB5.trans (hs.mono hb6)
  clear kb kf kd
  obtain ⟨W7, hW7⟩ : ∃ W', W' = (((W6.alloc (.cells #[.int .u8 5] 5)).alloc (.cells (tkxW gb).cells.toArray 63)).alloc (.cells tkdW.cells.toArray 70)).alloc (.cells #[.slice (some ⟨gf2, 0, none⟩) 1 1, .slice (some ⟨gd2, 0, none⟩) 1 1] 25) := ⟨_, rfl⟩
  rw [show (((W6.alloc (.cells #[.int .u8 5] 5)).alloc (.cells #[.int .i64 4, .int .i64 2, .string ⟨#[]⟩, .slice (some ⟨gb, 0, none⟩) 1 1, .int .i64 0, .slice none 0 0] 63)).alloc (.cells #[.string ⟨#[119]⟩, .int .i64 2, .int .i64 0, .int .i64 0, .int .i64 0, .int .i64 0] 70)).alloc (.cells #[.slice (some ⟨gf2, 0, none⟩) 1 1, .slice (some ⟨gd2, 0, none⟩) 1 1] 25) = W7 from hW7.symm]
  rw [← hW7] at k1' k3' k4' k5 oa' oc' oD oW hB5
  clear hW7 hs hg5 hgd2 hgf2 hgb hb6
  have x0 := k1'.cell 0
  have x1 := k1'.cell 1
  have x2 := k3'.cell 0
  have x3 := k3'.cell 1
  have x4 := k4'.cell 0
  have x5 := k4'.cell 1
  have x6 := k5.cell 0
  have x7 := k5.cell 1
  have z1 := k1'.lt
  have z3 := k3'.lt
  have z4 := k4'.lt
  have z5 := k5.lt
  go_wp2_with fail
  obtain ⟨gi, hgi⟩ : ∃ g, g = W7.heap.size + 1 + 1 := ⟨_, rfl⟩
  obtain ⟨gb3, hgb3⟩ : ∃ g, g = W7.heap.size + 1 := ⟨_, rfl⟩
  obtain ⟨ga, hga⟩ : ∃ g, g = W7.heap.size := ⟨_, rfl⟩
  rw [← hgi, ← hgb3, ← hga]
  have hs := (((Below.refl W7.heap.size W7).alloc (Nat.le_refl _) (.cells #[.slice p1.fa p1.frs.length p1.fc, .slice p1.da p1.dfs.length p1.dc] 25)).alloc (by simp <;> omega) (.cells #[.slice (some ⟨gf2, 0, none⟩) 1 1, .slice (some ⟨gd2, 0, none⟩) 1 1, .slice (some ⟨gf, 0, none⟩) 1 1, .slice (some ⟨gd, 0, none⟩) 1 1, .slice (some ⟨gq, 0, none⟩) 1 qc, .slice qda 1 qdc] 25)).alloc (by simp <;> omega) (.cells #[.bool false, .slice (some ⟨ga, 0, none⟩) 1 1, .bool true, .slice (some ⟨gb3, 0, none⟩) 3 3] 85)
  have ka := ((Blk.new' W7 25 #[.slice p1.fa p1.frs.length p1.fc, .slice p1.da p1.dfs.length p1.dc] hga).alloc (.cells #[.slice (some ⟨gf2, 0, none⟩) 1 1, .slice (some ⟨gd2, 0, none⟩) 1 1, .slice (some ⟨gf, 0, none⟩) 1 1, .slice (some ⟨gd, 0, none⟩) 1 1, .slice (some ⟨gq, 0, none⟩) 1 qc, .slice qda 1 qdc] 25)).alloc (.cells #[.bool false, .slice (some ⟨ga, 0, none⟩) 1 1, .bool true, .slice (some ⟨gb3, 0, none⟩) 3 3] 85)
  have kb3 := (Blk.new' (W7.alloc (.cells #[.slice p1.fa p1.frs.length p1.fc, .slice p1.da p1.dfs.length p1.dc] 25)) 25 #[.slice (some ⟨gf2, 0, none⟩) 1 1, .slice (some ⟨gd2, 0, none⟩) 1 1, .slice (some ⟨gf, 0, none⟩) 1 1, .slice (some ⟨gd, 0, none⟩) 1 1, .slice (some ⟨gq, 0, none⟩) 1 qc, .slice qda 1 qdc] (g := gb3) (by simp; exact hgb3)).alloc (.cells #[.bool false, .slice (some ⟨ga, 0, none⟩) 1 1, .bool true, .slice (some ⟨gb3, 0, none⟩) 3 3] 85)
  have ki := Blk.new' ((W7.alloc (.cells #[.slice p1.fa p1.frs.length p1.fc, .slice p1.da p1.dfs.length p1.dc] 25)).alloc (.cells #[.slice (some ⟨gf2, 0, none⟩) 1 1, .slice (some ⟨gd2, 0, none⟩) 1 1, .slice (some ⟨gf, 0, none⟩) 1 1, .slice (some ⟨gd, 0, none⟩) 1 1, .slice (some ⟨gq, 0, none⟩) 1 qc, .slice qda 1 qdc] 25)) 85 #[.bool false, .slice (some ⟨ga, 0, none⟩) 1 1, .bool true, .slice (some ⟨gb3, 0, none⟩) 3 3] (g := gi) (by simp; exact hgi)
  replace oa' := oa'.all hs
  replace oc' := oc'.all hs
  replace oD := oD.all hs
  replace oW := oW.all hs
  replace k1' := k1'.all hs
  replace k4' := k4'.all hs
  replace k5 := k5.all hs
  replace hB5 := hB5.trans (hs.mono hB5.size)
  obtain ⟨W8, hW8⟩ : ∃ W', W' = ((W7.alloc (.cells #[.slice p1.fa p1.frs.length p1.fc, .slice p1.da p1.dfs.length p1.dc] 25)).alloc (.cells #[.slice (some ⟨gf2, 0, none⟩) 1 1, .slice (some ⟨gd2, 0, none⟩) 1 1, .slice (some ⟨gf, 0, none⟩) 1 1, .slice (some ⟨gd, 0, none⟩) 1 1, .slice (some ⟨gq, 0, none⟩) 1 qc, .slice qda 1 qdc] 25)).alloc (.cells #[.bool false, .slice (some ⟨ga, 0, none⟩) 1 1, .bool true, .slice (some ⟨gb3, 0, none⟩) 3 3] 85) := ⟨_, rfl⟩
  rw [← hW8] at ka kb3 ki oa' oc' oD oW k1' k4' k5 hB5 ⊢
  clear hW8 hs hgi hgb3 hga x0 x1 x2 x3 x4 x5 x6 x7 z1 z3 z4 z5 k3'
  obtain ⟨pD, hpD⟩ : ∃ q : PtM, q = ⟨[⟨{ y.f with rs := [⟨0, 1, ⟨#[119]⟩, 0, 0⟩] }, y.ba, y.bc, some ⟨gr, 0, none⟩, 1⟩], [d], some ⟨gq, 0, none⟩, qc, qda, qdc⟩ := ⟨_, rfl⟩
  obtain ⟨pC, hpC⟩ : ∃ q : PtM, q = ⟨[tkxC], [tkdC], some ⟨gf, 0, none⟩, 1, some ⟨gd, 0, none⟩, 1⟩ := ⟨_, rfl⟩
  obtain ⟨pW, hpW⟩ : ∃ q : PtM, q = ⟨[tkxW gb], [tkdW], some ⟨gf2, 0, none⟩, 1, some ⟨gd2, 0, none⟩, 1⟩ := ⟨_, rfl⟩
  rw [← hpD] at oD
  rw [← hpC] at oc'
  rw [← hpW] at oW
  have eD : pD.er = takD := by rw [hpD]; simp only [PtM.er, List.map_cons, List.map_nil, hq3, hq4]; rfl
  have eC : pC.er = takC := by rw [hpC]; rfl
  have eW : pW.er = takW := by rw [hpW]; rfl
  have kb4 : Blk W8 gb3 25 (ptsV [pW, pC, pD]).toArray := by rw [hpD, hpC, hpW]; exact kb3
  have k4D : Blk W8 g4 25 #[.slice pD.fa pD.frs.length pD.fc, .slice pD.da pD.dfs.length pD.dc] := by rw [hpD]; exact k4'
  have k5W : Blk W8 g5 25 #[.slice pW.fa pW.frs.length pW.fc, .slice pW.da pW.dfs.length pW.dc] := by rw [hpW]; exact k5
  have hits : ItsAt W8 W8.heap.size (some ⟨gi, 0, none⟩) [⟨false, [p1], some ⟨ga, 0, none⟩, 1⟩, ⟨true, [pW, pC, pD], some ⟨gb3, 0, none⟩, 3⟩] := by
    refine ⟨ki.reads (size := 2) (n := 2) rfl, fun x hx => ?_⟩
    simp only [List.mem_cons, List.not_mem_nil, or_false] at hx
    rcases hx with rfl | rfl
    · exact ⟨pts_of_blk (l := [p1]) ka (fun p hp => by obtain rfl := List.mem_singleton.1 hp; exact oa'.at_), by simp⟩
    · refine ⟨pts_of_blk (l := [pW, pC, pD]) kb4 (fun p hp => ?_), by simp⟩
      simp only [List.mem_cons, List.not_mem_nil, or_false] at hp
      rcases hp with rfl | rfl | rfl
      · exact oW.at_
      · exact oc'.at_
      · exact oD.at_
  have HCH := Lib.hid (choose_any (some ⟨gi, 0, none⟩) none 2 0 [⟨false, [p1], some ⟨ga, 0, none⟩, 1⟩, ⟨true, [pW, pC, pD], some ⟨gb3, 0, none⟩, 3⟩] [] W8 hits (by simp) Reads.none_ (by simp))
  rw [show ([⟨false, [p1], some ⟨ga, 0, none⟩, 1⟩, ⟨true, [pW, pC, pD], some ⟨gb3, 0, none⟩, 3⟩] : List ItM).map ItM.er = [⟨false, [twoA]⟩, ⟨true, [takW, takC, takD]⟩] from by simp only [List.map_cons, List.map_nil, ItM.er, ea, eW, eC, eD], tak_all] at HCH
  replace oa' := oa'.at_
  replace oD := oD.at_
  replace oW := oW.at_
  clear hits ki ka kb3 kb4 k4' k5 hq3 hq4 hpD hpC hpW oc' eC
  refine HCH.out.mono ?_
  rintro e w9 ⟨z, qs, rfl, _, hq0, hb9⟩
  obtain ⟨hev, hqe⟩ := hq0 rfl
  rcases qs with _ | ⟨q1, _ | ⟨q2, _ | ⟨q3, _ | ⟨q4, r⟩⟩⟩⟩
  · simp at hqe
  · simp at hqe
  · simp at hqe
  · simp only [List.map_cons, List.map_nil, List.cons.injEq, and_true] at hqe
    obtain ⟨f1, f2, f3⟩ := hqe
    have h1 := (hev.each q1 (by simp)).at_
    have h2 := (hev.each q2 (by simp)).at_
    have h3 := (hev.each q3 (by simp)).at_
    obtain ⟨Az, cz, rfl, _, _⟩ := own_form hev.hz
    have R := Reads.of_own hev.hz
    obtain ⟨b0, o0, rfl, bl0, c0, c1⟩ := pt_get R (i := 0) (x := q1) rfl
    obtain ⟨b1, o1, he1, bl1, c2, c3⟩ := pt_get R (i := 1) (x := q2) rfl
    obtain ⟨b2, o2, he2, bl2, c4, c5⟩ := pt_get R (i := 2) (x := q3) rfl
    injection he1 with he1
    injection he1 with ea1 ea2
    subst ea1 ea2
    injection he2 with he2
    injection he2 with ea1 ea2
    subst ea1 ea2
    simp only [Nat.zero_mul, Nat.one_mul, Nat.add_zero, Nat.reduceMul] at c0 c1 c2 c3 c4 c5
    replace oa' := oa'.all hb9
    replace oD := oD.all hb9
    replace oW := oW.all hb9
    replace k1' := k1'.all hb9
    replace k4D := k4D.all hb9
    replace k5W := k5W.all hb9
    replace hB5 := hB5.trans (hb9.mono hB5.size)
    have x0 := k1'.cell 0
    have x1 := k1'.cell 1
    have x4 := k4D.cell 0
    have x5 := k4D.cell 1
    have x6 := k5W.cell 0
    have x7 := k5W.cell 1
    have s1 : Hid (decide (q1.er = p1.er) = true) := decide_eq_true (by rw [f1, ea])
    have s2 : Hid (decide (q2.er = pD.er) = true) := decide_eq_true (by rw [f2, eD])
    have s3 : Hid (decide (q3.er = pW.er) = true) := decide_eq_true (by rw [f3, eW])
    have HS1 : Hid (∀ W', Below w9.heap.size w9 W' → Calls Tryd.prog 26 #[.agg #[.slice q1.fa q1.frs.length q1.fc, .slice q1.da q1.dfs.length q1.dc], .agg #[.slice p1.fa p1.frs.length p1.fc, .slice p1.da p1.dfs.length p1.dc]] W' fun e w' => e = .returned (.bool true) ∧ Below W'.heap.size W' w') := fun W' hb => by
      have := same_any q1 p1 W' (h1.all hb) (oa'.all hb)
      rw [s1.out] at this
      exact this
    have HS2 : Hid (∀ W', Below w9.heap.size w9 W' → Calls Tryd.prog 26 #[.agg #[.slice q2.fa q2.frs.length q2.fc, .slice q2.da q2.dfs.length q2.dc], .agg #[.slice pD.fa pD.frs.length pD.fc, .slice pD.da pD.dfs.length pD.dc]] W' fun e w' => e = .returned (.bool true) ∧ Below W'.heap.size W' w') := fun W' hb => by
      have := same_any q2 pD W' (h2.all hb) (oD.all hb)
      rw [s2.out] at this
      exact this
    have HS3 : Hid (∀ W', Below w9.heap.size w9 W' → Calls Tryd.prog 26 #[.agg #[.slice q3.fa q3.frs.length q3.fc, .slice q3.da q3.dfs.length q3.dc], .agg #[.slice pW.fa pW.frs.length pW.fc, .slice pW.da pW.dfs.length pW.dc]] W' fun e w' => e = .returned (.bool true) ∧ Below W'.heap.size W' w') := fun W' hb => by
      have := same_any q3 pW W' (h3.all hb) (oW.all hb)
      rw [s3.out] at this
      exact this
    have HB := Lib.hid hB5
    have bl := bl0
    have z1 := k1'.lt
    have z4 := k4D.lt
    have z5 := k5W.lt
    clear ea eb f1 f2 f3 eD eW s1 s2 s3 h1 h2 h3 R hev HCH hq0 oa' oD oW k1' k4D k5W hb9
    go_upto_region 7 with (fail)
    go_region_held3 (fun w' => w'.cell? ⟨b0, o0, none⟩ = some (.slice q1.fa q1.frs.length q1.fc) ∧ w'.cell? ⟨b0, o0 + 1, none⟩ = some (.slice q1.da q1.dfs.length q1.dc) ∧ w'.cell? ⟨b0, o0 + 2, none⟩ = some (.slice q2.fa q2.frs.length q2.fc) ∧ w'.cell? ⟨b0, o0 + 2 + 1, none⟩ = some (.slice q2.da q2.dfs.length q2.dc) ∧ w'.cell? ⟨b0, o0 + 4, none⟩ = some (.slice q3.fa q3.frs.length q3.fc) ∧ w'.cell? ⟨b0, o0 + 4 + 1, none⟩ = some (.slice q3.da q3.dfs.length q3.dc) ∧ w'.cell? ⟨g1, 0, none⟩ = some (.slice p1.fa p1.frs.length p1.fc) ∧ w'.cell? ⟨g1, 1, none⟩ = some (.slice p1.da p1.dfs.length p1.dc) ∧ w'.cell? ⟨g4, 0, none⟩ = some (.slice pD.fa pD.frs.length pD.fc) ∧ w'.cell? ⟨g4, 1, none⟩ = some (.slice pD.da pD.dfs.length pD.dc) ∧ w'.cell? ⟨g5, 0, none⟩ = some (.slice pW.fa pW.frs.length pW.fc) ∧ w'.cell? ⟨g5, 1, none⟩ = some (.slice pW.da pW.dfs.length pW.dc)) (first | go_keep | exact ⟨((hb10).cell (p := ⟨b0, o0, none⟩) bl).trans c0, ((hb10).cell (p := ⟨b0, o0 + 1, none⟩) bl).trans c1, ((hb10).cell (p := ⟨b0, o0 + 2, none⟩) bl).trans c2, ((hb10).cell (p := ⟨b0, o0 + 2 + 1, none⟩) bl).trans c3, ((hb10).cell (p := ⟨b0, o0 + 4, none⟩) bl).trans c4, ((hb10).cell (p := ⟨b0, o0 + 4 + 1, none⟩) bl).trans c5, ((hb10).cell (p := ⟨g1, 0, none⟩) z1).trans x0, ((hb10).cell (p := ⟨g1, 1, none⟩) z1).trans x1, ((hb10).cell (p := ⟨g4, 0, none⟩) z4).trans x4, ((hb10).cell (p := ⟨g4, 1, none⟩) z4).trans x5, ((hb10).cell (p := ⟨g5, 0, none⟩) z5).trans x6, ((hb10).cell (p := ⟨g5, 1, none⟩) z5).trans x7⟩ | exact ⟨((hb11).cell (p := ⟨b0, o0, none⟩) bl).trans c0, ((hb11).cell (p := ⟨b0, o0 + 1, none⟩) bl).trans c1, ((hb11).cell (p := ⟨b0, o0 + 2, none⟩) bl).trans c2, ((hb11).cell (p := ⟨b0, o0 + 2 + 1, none⟩) bl).trans c3, ((hb11).cell (p := ⟨b0, o0 + 4, none⟩) bl).trans c4, ((hb11).cell (p := ⟨b0, o0 + 4 + 1, none⟩) bl).trans c5, ((hb11).cell (p := ⟨g1, 0, none⟩) z1).trans x0, ((hb11).cell (p := ⟨g1, 1, none⟩) z1).trans x1, ((hb11).cell (p := ⟨g4, 0, none⟩) z4).trans x4, ((hb11).cell (p := ⟨g4, 1, none⟩) z4).trans x5, ((hb11).cell (p := ⟨g5, 0, none⟩) z5).trans x6, ((hb11).cell (p := ⟨g5, 1, none⟩) z5).trans x7⟩ | exact ⟨((hb12).cell (p := ⟨b0, o0, none⟩) bl).trans c0, ((hb12).cell (p := ⟨b0, o0 + 1, none⟩) bl).trans c1, ((hb12).cell (p := ⟨b0, o0 + 2, none⟩) bl).trans c2, ((hb12).cell (p := ⟨b0, o0 + 2 + 1, none⟩) bl).trans c3, ((hb12).cell (p := ⟨b0, o0 + 4, none⟩) bl).trans c4, ((hb12).cell (p := ⟨b0, o0 + 4 + 1, none⟩) bl).trans c5, ((hb12).cell (p := ⟨g1, 0, none⟩) z1).trans x0, ((hb12).cell (p := ⟨g1, 1, none⟩) z1).trans x1, ((hb12).cell (p := ⟨g4, 0, none⟩) z4).trans x4, ((hb12).cell (p := ⟨g4, 1, none⟩) z4).trans x5, ((hb12).cell (p := ⟨g5, 0, none⟩) z5).trans x6, ((hb12).cell (p := ⟨g5, 1, none⟩) z5).trans x7⟩)
      (first
        | (go_at_call 26
           first
             | ((with_reducible refine (HS1.out _ ((Below.refl _ _).drew)).mono ?_)
                rintro e w10 ⟨rfl, hb⟩
                have hb10 : Below w9.heap.size w9 w10 := ((Below.refl _ _).drew).trans hb)
             | ((with_reducible refine (HS2.out _ hb10).mono ?_)
                rintro e w11 ⟨rfl, hb⟩
                have hb11 : Below w9.heap.size w9 w11 := hb10.trans (hb.mono hb10.size))
             | ((with_reducible refine (HS3.out _ hb11).mono ?_)
                rintro e w12 ⟨rfl, hb⟩
                have hb12 : Below w9.heap.size w9 w12 := hb11.trans (hb.mono hb11.size))))
    go_wp2
    go_ret
    exact ⟨rfl, HB.out.trans (hb12.mono HB.out.size)⟩
  · simp at hqe
end Go.Proofs.YtmlomnhjbmocfaaDoor
