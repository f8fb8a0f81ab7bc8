/- What part.Join holds while it works: memory, step by step. No program in sight but its types' numbers. -/
import Derived.Test.YtbonpilpmjghbaaDropD
set_option linter.all false
namespace Go.Proofs.Ytbonpilpmjghbaa
open Go.RowKit

structure JB (wr : World) (base gB gR gO : Nat) (z1 y1 z2 y2 : Value) (K1 : List FgM) (D1 : List Df) (K2 : List FgM) (D2 : List Df) (L : List FgM) : Prop where
  hB : Blk wr gB 44 #[z2, y2]
  hR : Blk wr gR 44 #[.slice none 0 0, .slice none 0 0]
  hO : Blk wr gO 44 #[z1, y1]
  hz1 : wr.ownsRow base 73 6 z1 K1.length (fgsV K1)
  hy1 : wr.ownsRow base 77 6 y1 D1.length (dfsV D1)
  hz2 : wr.ownsRow base 73 6 z2 K2.length (fgsV K2)
  hy2 : wr.ownsRow base 77 6 y2 D2.length (dfsV D2)
  nz : ∀ g, z2.ownBlock = some g → z1.ownBlock ≠ some g
  ny : ∀ g, y2.ownBlock = some g → y1.ownBlock ≠ some g
  each : ∀ x ∈ K1 ++ L, x.Own wr base
  apart : ApartR (K1 ++ L)
  n1 : gB ≠ gR
  n2 : gB ≠ gO
  n3 : gR ≠ gO
  b1 : base ≤ gB
  b2 : base ≤ gR
  b3 : base ≤ gO

section
variable {wr : World} {base gB gR gO : Nat} {z1 y1 z2 y2 : Value} {K1 : List FgM} {D1 : List Df} {K2 : List FgM} {D2 : List Df} {L : List FgM}
theorem JB.alloc (h : JB wr base gB gR gO z1 y1 z2 y2 K1 D1 K2 D2 L) (o : Obj) : JB (wr.alloc o) base gB gR gO z1 y1 z2 y2 K1 D1 K2 D2 L :=
  ⟨h.hB.alloc o, h.hR.alloc o, h.hO.alloc o, h.hz1.alloc o, h.hy1.alloc o, h.hz2.alloc o, h.hy2.alloc o, h.nz, h.ny, fun x hx => (h.each x hx).alloc o, h.apart, h.n1, h.n2, h.n3, h.b1, h.b2, h.b3⟩
theorem JB.setR {x : FgM} {L2 : List FgM} (h : JB wr base gB gR gO z1 y1 z2 y2 K1 D1 K2 D2 (x :: L2)) {g : Nat} {R1 R2 : List Rel} {r : Rel} (hr : x.f.rs = R1 ++ r :: R2) (hg : x.ra = some ⟨g, 0, none⟩) (v : Int) :
    JB (wr.setCell ⟨g, R1.length * 5 + 3, none⟩ (.int .i64 v)) base gB gR gO z1 y1 z2 y2 K1 D1 K2 D2 (x.withR (R1 ++ { r with frag := v } :: R2) :: L2) := by
  have hx := h.each x (by simp)
  have hb : x.reV.ownBlock = some g := by unfold FgM.reV; rw [hg]; rfl
  have hlen : (R1 ++ { r with frag := v } :: R2).length = x.f.rs.length := by rw [hr]; simp
  have n0 : ∀ {c : Nat} {t : TypeId} {cs : Array Value}, Blk wr c t cs → 121 ≠ t → c ≠ g := fun hc ht e => own_blk_ne hx.re hc ht (by rw [hb, e])
  refine ⟨h.hB.far (n0 h.hB (by decide)) _, h.hR.far (n0 h.hR (by decide)) _, h.hO.far (n0 h.hO (by decide)) _, own_setCell h.hz1 (own_ne_own hx.re h.hz1 (by decide) hb) _, own_setCell h.hy1 (own_ne_own hx.re h.hy1 (by decide) hb) _,
    own_setCell h.hz2 (own_ne_own hx.re h.hz2 (by decide) hb) _, own_setCell h.hy2 (own_ne_own hx.re h.hy2 (by decide) hb) _, h.nz, h.ny, each_setR h.each h.apart hr hg v, apart_with h.apart ?_, h.n1, h.n2, h.n3, h.b1, h.b2, h.b3⟩
  unfold FgM.withR FgM.reV
  simp [hlen]
theorem JB.pushF {x : FgM} {L2 : List FgM} (h : JB wr base gB gR gO z1 y1 z2 y2 K1 D1 K2 D2 (x :: L2)) {w5 : World} {g c : Nat} (ho : w5.ownsRow base 73 6 (.slice (some ⟨g, 0, none⟩) (K1.length + 1) c) (K1.length + 1) (fgsV K1 ++ x.cells))
    (hg : wr.grownBy w5 z1.ownBlock) (hat : z1.ownBlock = some g ∨ g = wr.heap.size) :
    JB (w5.setCell ⟨gO, 0, none⟩ (.slice (some ⟨g, 0, none⟩) (K1.length + 1) c)) base gB gR gO (.slice (some ⟨g, 0, none⟩) (K1.length + 1) c) y1 z2 y2 (K1 ++ [x]) D1 K2 D2 L2 := by
  have hO := h.hO.grown hg (own_blk_ne h.hz1 h.hO (by decide)).symm
  have ho' : w5.ownsRow base 73 6 (.slice (some ⟨g, 0, none⟩) (K1.length + 1) c) (K1 ++ [x]).length (fgsV (K1 ++ [x])) := by
    rw [fgsV_append, List.length_append]
    simpa [fgsV] using ho
  have h2 : z2.ownBlock = none ∨ z2.ownBlock ≠ z1.ownBlock := by
    rcases hb : z2.ownBlock with _ | k
    · exact .inl rfl
    · exact .inr fun e => h.nz k hb e.symm
  have hz2 := own_kept h.hz2 hg h2
  have hy1 := own_kept h.hy1 hg (own_row_ne h.hy1 h.hz1 (by decide))
  have hy2 := own_kept h.hy2 hg (own_row_ne h.hy2 h.hz1 (by decide))
  refine ⟨(h.hB.grown hg (own_blk_ne h.hz1 h.hB (by decide)).symm).far (by have := h.n2; simp only; omega) _, (h.hR.grown hg (own_blk_ne h.hz1 h.hR (by decide)).symm).far (by have := h.n3; simp only; omega) _, hO.set_ 0 _,
    own_setCell ho' (own_blk_ne ho' hO (by decide)) _, own_setCell hy1 (own_blk_ne hy1 hO (by decide)) _, own_setCell hz2 (own_blk_ne hz2 hO (by decide)) _, own_setCell hy2 (own_blk_ne hy2 hO (by decide)) _, ?_, h.ny, fun y hy => ?_, ?_, h.n1, h.n2, h.n3, h.b1, h.b2, h.b3⟩
  · intro k hk e
    have e' : g = k := by simpa [Value.ownBlock] using e
    rcases hat with hat | hat
    · exact h.nz k hk (by rw [hat, e'])
    · have := (h.hz2.lt k hk).2
      omega
  · have hy' : y ∈ K1 ++ x :: L2 := by simpa using hy
    exact ((h.each y hy').row h.hz1 hg (by decide) (by decide)).blk hO (by decide) (by decide) _
  · have := h.apart
    rwa [List.append_cons] at this
theorem JB.hO5 (h : JB wr base gB gR gO z1 y1 z2 y2 K1 D1 K2 D2 L) {w5 : World} (hg : wr.grownBy w5 z1.ownBlock) : Blk w5 gO 44 #[z1, y1] := h.hO.grown hg (own_blk_ne h.hz1 h.hO (by decide)).symm
theorem JB.hO6 (h : JB wr base gB gR gO z1 y1 z2 y2 K1 D1 K2 D2 L) {w5 : World} (hg : wr.grownBy w5 y1.ownBlock) : Blk w5 gO 44 #[z1, y1] := h.hO.grown hg (own_blk_ne h.hy1 h.hO (by decide)).symm
theorem JB.belowF (h : JB wr base gB gR gO z1 y1 z2 y2 K1 D1 K2 D2 L) {w w5 : World} (u : Value) (hb : Below base w wr) (hg : wr.grownBy w5 z1.ownBlock) : Below base w (w5.setCell ⟨gO, 0, none⟩ u) := by
  have h2 := h.hO.lt
  have h3 := h.b3
  exact (hb.grown hg (by omega) (fun g hg' => (h.hz1.lt g hg').1)).setCell (by simp only; omega) _
theorem JB.belowD (h : JB wr base gB gR gO z1 y1 z2 y2 K1 D1 K2 D2 L) {w w5 : World} (u : Value) (hb : Below base w wr) (hg : wr.grownBy w5 y1.ownBlock) : Below base w (w5.setCell ⟨gO, 1, none⟩ u) := by
  have h2 := h.hO.lt
  have h3 := h.b3
  exact (hb.grown hg (by omega) (fun g hg' => (h.hy1.lt g hg').1)).setCell (by simp only; omega) _
theorem JB.pushD (h : JB wr base gB gR gO z1 y1 z2 y2 K1 D1 K2 D2 L) {d : Df} {w5 : World} {g c : Nat} (ho : w5.ownsRow base 77 6 (.slice (some ⟨g, 0, none⟩) (D1.length + 1) c) (D1.length + 1) (dfsV D1 ++ d.cells))
    (hg : wr.grownBy w5 y1.ownBlock) (hat : y1.ownBlock = some g ∨ g = wr.heap.size) :
    JB (w5.setCell ⟨gO, 1, none⟩ (.slice (some ⟨g, 0, none⟩) (D1.length + 1) c)) base gB gR gO z1 (.slice (some ⟨g, 0, none⟩) (D1.length + 1) c) z2 y2 K1 (D1 ++ [d]) K2 D2 L := by
  have hO := h.hO.grown hg (own_blk_ne h.hy1 h.hO (by decide)).symm
  have ho' : w5.ownsRow base 77 6 (.slice (some ⟨g, 0, none⟩) (D1.length + 1) c) (D1 ++ [d]).length (dfsV (D1 ++ [d])) := by
    rw [dfsV_append, List.length_append]
    simpa [dfsV] using ho
  have h2 : y2.ownBlock = none ∨ y2.ownBlock ≠ y1.ownBlock := by
    rcases hb : y2.ownBlock with _ | k
    · exact .inl rfl
    · exact .inr fun e => h.ny k hb e.symm
  have hy2 := own_kept h.hy2 hg h2
  have hz1 := own_kept h.hz1 hg (own_row_ne h.hz1 h.hy1 (by decide))
  have hz2 := own_kept h.hz2 hg (own_row_ne h.hz2 h.hy1 (by decide))
  refine ⟨(h.hB.grown hg (own_blk_ne h.hy1 h.hB (by decide)).symm).far (by have := h.n2; simp only; omega) _, (h.hR.grown hg (own_blk_ne h.hy1 h.hR (by decide)).symm).far (by have := h.n3; simp only; omega) _, hO.set_ 1 _,
    own_setCell hz1 (own_blk_ne hz1 hO (by decide)) _, own_setCell ho' (own_blk_ne ho' hO (by decide)) _, own_setCell hz2 (own_blk_ne hz2 hO (by decide)) _, own_setCell hy2 (own_blk_ne hy2 hO (by decide)) _, h.nz, ?_,
    fun x hx => ((h.each x hx).row h.hy1 hg (by decide) (by decide)).blk hO (by decide) (by decide) _, h.apart, h.n1, h.n2, h.n3, h.b1, h.b2, h.b3⟩
  intro k hk e
  have e' : g = k := by simpa [Value.ownBlock] using e
  rcases hat with hat | hat
  · exact h.ny k hk (by rw [hat, e'])
  · have := (h.hy2.lt k hk).2
    omega
theorem JB.box (h : JB wr base gB gR gO z1 y1 z2 y2 K1 D1 K2 D2 L) {g j : Nat} {cs : Array Value} (hb : Blk wr g 77 cs) (hy1 : y1.ownBlock ≠ some g) (hy2 : y2.ownBlock ≠ some g) (u : Value) : JB (wr.setCell ⟨g, j, none⟩ u) base gB gR gO z1 y1 z2 y2 K1 D1 K2 D2 L := by
  have n0 : ∀ {c : Nat} {cs' : Array Value}, Blk wr c 44 cs' → c ≠ g := fun hc => hc.ne_ hb (by decide)
  exact ⟨h.hB.far (n0 h.hB) _, h.hR.far (n0 h.hR) _, h.hO.far (n0 h.hO) _, own_setCell h.hz1 (own_blk_ne h.hz1 hb (by decide)) _, own_setCell h.hy1 hy1 _, own_setCell h.hz2 (own_blk_ne h.hz2 hb (by decide)) _, own_setCell h.hy2 hy2 _, h.nz, h.ny,
    fun x hx => (h.each x hx).blk hb (by decide) (by decide) _, h.apart, h.n1, h.n2, h.n3, h.b1, h.b2, h.b3⟩
theorem JB.start {w4 : World} {base B gB gR gO : Nat} {q q2 : PtM} {u0 u1 : Value} (hq : q.Own w4 base) (hq2 : q2.Own w4 B) (hBb : base ≤ B) (f1 : ∀ g, q.frV.ownBlock = some g → g < B) (f2 : ∀ g, q.dfV.ownBlock = some g → g < B)
    (f3 : ∀ x ∈ q.frs, ∀ g, x.reV.ownBlock = some g → g < B) (hB : Blk w4 gB 44 #[u0, u1]) (hR : Blk w4 gR 44 #[.slice none 0 0, .slice none 0 0]) (hO : Blk w4 gO 44 #[q.frV, q.dfV])
    (n1 : gB ≠ gR) (n2 : gB ≠ gO) (n3 : gR ≠ gO) (b1 : base ≤ gB) (b2 : base ≤ gR) (b3 : base ≤ gO) :
    JB ((w4.setCell ⟨gB, 0, none⟩ q2.frV).setCell ⟨gB, 1, none⟩ q2.dfV) base gB gR gO q.frV q.dfV q2.frV q2.dfV q.frs q.dfs q2.frs q2.dfs q2.frs := by
  have hB1 := hB.set_ 0 q2.frV
  have hB2 := hB1.set_ 1 q2.dfV
  have hz1 := own_setCell (own_setCell hq.fr (own_blk_ne hq.fr hB (by decide)) q2.frV (p := ⟨gB, 0, none⟩)) (own_blk_ne hq.fr hB (by decide)) q2.dfV (p := ⟨gB, 1, none⟩)
  have hy1 := own_setCell (own_setCell hq.df (own_blk_ne hq.df hB (by decide)) q2.frV (p := ⟨gB, 0, none⟩)) (own_blk_ne hq.df hB (by decide)) q2.dfV (p := ⟨gB, 1, none⟩)
  have hz2 := own_setCell (own_setCell hq2.fr (own_blk_ne hq2.fr hB (by decide)) q2.frV (p := ⟨gB, 0, none⟩)) (own_blk_ne hq2.fr hB (by decide)) q2.dfV (p := ⟨gB, 1, none⟩)
  have hy2 := own_setCell (own_setCell hq2.df (own_blk_ne hq2.df hB (by decide)) q2.frV (p := ⟨gB, 0, none⟩)) (own_blk_ne hq2.df hB (by decide)) q2.dfV (p := ⟨gB, 1, none⟩)
  refine ⟨hB2, (hR.far (by simp only; omega) _).far (by simp only; omega) _, (hO.far (by simp only; omega) _).far (by simp only; omega) _, hz1, hy1, hz2.mono hBb, hy2.mono hBb, ?_, ?_, ?_, ?_, n1, n2, n3, b1, b2, b3⟩
  · intro g hg e
    have := f1 g e
    have := (hq2.fr.lt g hg).1
    omega
  · intro g hg e
    have := f2 g e
    have := (hq2.df.lt g hg).1
    omega
  · intro x hx
    rcases List.mem_append.1 hx with hx | hx
    · exact ((hq.each x hx).blk hB (by decide) (by decide) _).blk hB1 (by decide) (by decide) _
    · have h2 := ((hq2.each x hx).blk hB (by decide) (by decide) q2.frV (j := 0)).blk hB1 (by decide) (by decide) q2.dfV (j := 1)
      exact ⟨h2.by_.mono hBb, h2.re.mono hBb⟩
  · refine List.pairwise_append.2 ⟨hq.apart, hq2.apart, fun x hx y hy g e1 e2 => ?_⟩
    have h1 := f3 x hx g e1
    have h2 := ((hq2.each y hy).re.lt g e2).1
    omega
theorem cells_mapR (g : Rel → Rel) (x : FgM) : (x.mapR g).cells = x.cells := by
  unfold FgM.mapR FgM.cells FgM.byV FgM.reV Frg.mapR
  simp
end
end Go.Proofs.Ytbonpilpmjghbaa
