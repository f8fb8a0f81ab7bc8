/- What ropewalkref.Dropped holds while it works: memory, step by step. No program in sight but its types' numbers. -/
import Derived.Test.YtkkjfjbkhafaiaaDoorJoinD
namespace Go.Proofs.YtkkjfjbkhafaiaaDoor
open Go.RowKit

structure RD (wr : World) (base gP gL gG gR gO : Nat) (P L G : Array Value) (z1 y1 z2 : Value) (K1 : List FgM) (D1 : List Df) (K2 : List FgM) (R : List FgM) : Prop where
  hP : Blk wr gP 25 P
  hL : Blk wr gL 38 L
  hG : Blk wr gG 75 G
  hR : Blk wr gR 25 #[.slice none 0 0, .slice none 0 0]
  hO : Blk wr gO 25 #[z1, y1]
  hz1 : wr.ownsRow base 29 6 z1 K1.length (fgsV K1)
  hy1 : wr.ownsRow base 74 6 y1 D1.length (dfsV D1)
  hz2 : wr.ownsRow base 29 6 z2 K2.length (fgsV K2)
  nz : ∀ g, z2.ownBlock = some g → z1.ownBlock ≠ some g
  each : ∀ x ∈ K1 ++ R, x.Own wr base
  apart : ApartR (K1 ++ R)
  n1 : gP ≠ gO
  n3 : gR ≠ gO
  b3 : base ≤ gO

section
variable {wr : World} {base gP gL gG gR gO : Nat} {P L G : Array Value} {z1 y1 z2 : Value} {K1 : List FgM} {D1 : List Df} {K2 : List FgM} {R : List FgM}
theorem RD.all (h : RD wr base gP gL gG gR gO P L G z1 y1 z2 K1 D1 K2 R) {w' : World} (hb : Below wr.heap.size wr w') : RD w' base gP gL gG gR gO P L G z1 y1 z2 K1 D1 K2 R :=
  ⟨h.hP.all hb, h.hL.all hb, h.hG.all hb, h.hR.all hb, h.hO.all hb, own_all h.hz1 hb, own_all h.hy1 hb, own_all h.hz2 hb, h.nz, fun x hx => (h.each x hx).all hb, h.apart, h.n1, h.n3, h.b3⟩
theorem RD.alloc (h : RD wr base gP gL gG gR gO P L G z1 y1 z2 K1 D1 K2 R) (o : Obj) : RD (wr.alloc o) base gP gL gG gR gO P L G z1 y1 z2 K1 D1 K2 R :=
  h.all ((Below.refl _ wr).alloc (Nat.le_refl _) o)
/-- One that goes: it is left behind. -/
theorem RD.skip {x : FgM} {R2 : List FgM} (h : RD wr base gP gL gG gR gO P L G z1 y1 z2 K1 D1 K2 (x :: R2)) : RD wr base gP gL gG gR gO P L G z1 y1 z2 K1 D1 K2 R2 :=
  ⟨h.hP, h.hL, h.hG, h.hR, h.hO, h.hz1, h.hy1, h.hz2, h.nz, fun y hy => h.each y (by rcases List.mem_append.1 hy with hy | hy; exact List.mem_append.2 (.inl hy); exact List.mem_append.2 (.inr (List.mem_cons_of_mem _ hy))),
    List.Pairwise.sublist (List.Sublist.append_left (List.sublist_cons_self x R2) K1) h.apart, h.n1, h.n3, h.b3⟩
theorem RD.setR {x : FgM} {R3 : List FgM} (h : RD wr base gP gL gG gR gO P L G z1 y1 z2 K1 D1 K2 (x :: R3)) {g : Nat} {R1 R2 : List Rel} {r : Rel} (hr : x.f.rs = R1 ++ r :: R2) (hg : x.ra = some ⟨g, 0, none⟩) (v : Int) :
    RD (wr.setCell ⟨g, R1.length * 5 + 3, none⟩ (.int .i64 v)) base gP gL gG gR gO P L G z1 y1 z2 K1 D1 K2 (x.withR (R1 ++ { r with frag := v } :: R2) :: R3) := by
  have hx := h.each x (by simp)
  have hb : x.reV.ownBlock = some g := by unfold FgM.reV; rw [hg]; rfl
  have hlen : (R1 ++ { r with frag := v } :: R2).length = x.f.rs.length := by rw [hr]; simp
  have n0 : ∀ {c : Nat} {t : TypeId} {cs : Array Value}, Blk wr c t cs → 81 ≠ t → c ≠ g := fun hc ht e => own_blk_ne hx.re hc ht (by rw [hb, e])
  refine ⟨h.hP.far (n0 h.hP (by decide)) _, h.hL.far (n0 h.hL (by decide)) _, h.hG.far (n0 h.hG (by decide)) _, h.hR.far (n0 h.hR (by decide)) _, h.hO.far (n0 h.hO (by decide)) _, own_setCell h.hz1 (own_ne_own hx.re h.hz1 (by decide) hb) _, own_setCell h.hy1 (own_ne_own hx.re h.hy1 (by decide) hb) _,
    own_setCell h.hz2 (own_ne_own hx.re h.hz2 (by decide) hb) _, h.nz, each_setR h.each h.apart hr hg v, apart_with h.apart ?_, h.n1, h.n3, h.b3⟩
  unfold FgM.withR FgM.reV
  simp [hlen]
theorem RD.pushF {x : FgM} {R2 : List FgM} (h : RD wr base gP gL gG gR gO P L G z1 y1 z2 K1 D1 K2 (x :: R2)) {w5 : World} {g c : Nat} (ho : w5.ownsRow base 29 6 (.slice (some ⟨g, 0, none⟩) (K1.length + 1) c) (K1.length + 1) (fgsV K1 ++ x.cells))
    (hg : wr.grownBy w5 z1.ownBlock) (hat : z1.ownBlock = some g ∨ g = wr.heap.size) :
    RD (w5.setCell ⟨gO, 0, none⟩ (.slice (some ⟨g, 0, none⟩) (K1.length + 1) c)) base gP gL gG gR gO P L G (.slice (some ⟨g, 0, none⟩) (K1.length + 1) c) y1 z2 (K1 ++ [x]) D1 K2 R2 := by
  have hO := h.hO.grown hg (own_blk_ne h.hz1 h.hO (by decide)).symm
  have ho' : w5.ownsRow base 29 6 (.slice (some ⟨g, 0, none⟩) (K1.length + 1) c) (K1 ++ [x]).length (fgsV (K1 ++ [x])) := by
    rw [fgsV_append, List.length_append]
    simpa [fgsV] using ho
  have h2 : z2.ownBlock = none ∨ z2.ownBlock ≠ z1.ownBlock := by
    rcases hb : z2.ownBlock with _ | k
    · exact .inl rfl
    · exact .inr fun e => h.nz k hb e.symm
  have hz2 := own_kept h.hz2 hg h2
  have hy1 := own_kept h.hy1 hg (own_row_ne h.hy1 h.hz1 (by decide))
  have nL := h.hL.ne_ h.hO (by decide)
  have nG := h.hG.ne_ h.hO (by decide)
  have n1 := h.n1
  have n3 := h.n3
  refine ⟨(h.hP.grown hg (own_blk_ne h.hz1 h.hP (by decide)).symm).far (by simp only; omega) _, (h.hL.grown hg (own_blk_ne h.hz1 h.hL (by decide)).symm).far (by simp only; omega) _, (h.hG.grown hg (own_blk_ne h.hz1 h.hG (by decide)).symm).far (by simp only; omega) _,
    (h.hR.grown hg (own_blk_ne h.hz1 h.hR (by decide)).symm).far (by simp only; omega) _, hO.set_ 0 _,
    own_setCell ho' (own_blk_ne ho' hO (by decide)) _, own_setCell hy1 (own_blk_ne hy1 hO (by decide)) _, own_setCell hz2 (own_blk_ne hz2 hO (by decide)) _, ?_, fun y hy => ?_, ?_, h.n1, h.n3, h.b3⟩
  · intro k hk e
    have e' : g = k := by simpa [Value.ownBlock] using e
    rcases hat with hat | hat
    · exact h.nz k hk (by rw [hat, e'])
    · have := (h.hz2.lt k hk).2
      omega
  · have hy' : y ∈ K1 ++ x :: R2 := by simpa using hy
    exact ((h.each y hy').row h.hz1 hg (by decide) (by decide)).blk hO (by decide) (by decide) _
  · have := h.apart
    rwa [List.append_cons] at this
theorem RD.hO5 (h : RD wr base gP gL gG gR gO P L G z1 y1 z2 K1 D1 K2 R) {w5 : World} (hg : wr.grownBy w5 z1.ownBlock) : Blk w5 gO 25 #[z1, y1] := h.hO.grown hg (own_blk_ne h.hz1 h.hO (by decide)).symm
theorem RD.hO6 (h : RD wr base gP gL gG gR gO P L G z1 y1 z2 K1 D1 K2 R) {w5 : World} (hg : wr.grownBy w5 y1.ownBlock) : Blk w5 gO 25 #[z1, y1] := h.hO.grown hg (own_blk_ne h.hy1 h.hO (by decide)).symm
theorem RD.belowF (h : RD wr base gP gL gG gR gO P L G z1 y1 z2 K1 D1 K2 R) {w w5 : World} (u : Value) (hb : Below base w wr) (hg : wr.grownBy w5 z1.ownBlock) : Below base w (w5.setCell ⟨gO, 0, none⟩ u) := by
  have h2 := h.hO.lt
  have h3 := h.b3
  exact (hb.grown hg (by omega) (fun g hg' => (h.hz1.lt g hg').1)).setCell (by simp only; omega) _
theorem RD.belowD (h : RD wr base gP gL gG gR gO P L G z1 y1 z2 K1 D1 K2 R) {w w5 : World} (u : Value) (hb : Below base w wr) (hg : wr.grownBy w5 y1.ownBlock) : Below base w (w5.setCell ⟨gO, 1, none⟩ u) := by
  have h2 := h.hO.lt
  have h3 := h.b3
  exact (hb.grown hg (by omega) (fun g hg' => (h.hy1.lt g hg').1)).setCell (by simp only; omega) _
theorem RD.pushD (h : RD wr base gP gL gG gR gO P L G z1 y1 z2 K1 D1 K2 R) {d : Df} {w5 : World} {v' : Value} (ho : w5.ownsRow base 74 6 v' (D1.length + 1) (dfsV D1 ++ d.cells)) (hg : wr.grownBy w5 y1.ownBlock) :
    RD (w5.setCell ⟨gO, 1, none⟩ v') base gP gL gG gR gO P L G z1 v' z2 K1 (D1 ++ [d]) K2 R := by
  have hO := h.hO.grown hg (own_blk_ne h.hy1 h.hO (by decide)).symm
  have ho' : w5.ownsRow base 74 6 v' (D1 ++ [d]).length (dfsV (D1 ++ [d])) := by
    rw [dfsV_append, List.length_append]
    simpa [dfsV] using ho
  have hz1 := own_kept h.hz1 hg (own_row_ne h.hz1 h.hy1 (by decide))
  have hz2 := own_kept h.hz2 hg (own_row_ne h.hz2 h.hy1 (by decide))
  have nL := h.hL.ne_ h.hO (by decide)
  have nG := h.hG.ne_ h.hO (by decide)
  have n1 := h.n1
  have n3 := h.n3
  exact ⟨(h.hP.grown hg (own_blk_ne h.hy1 h.hP (by decide)).symm).far (by simp only; omega) _, (h.hL.grown hg (own_blk_ne h.hy1 h.hL (by decide)).symm).far (by simp only; omega) _, (h.hG.grown hg (own_blk_ne h.hy1 h.hG (by decide)).symm).far (by simp only; omega) _,
    (h.hR.grown hg (own_blk_ne h.hy1 h.hR (by decide)).symm).far (by simp only; omega) _, hO.set_ 1 _,
    own_setCell hz1 (own_blk_ne hz1 hO (by decide)) _, own_setCell ho' (own_blk_ne ho' hO (by decide)) _, own_setCell hz2 (own_blk_ne hz2 hO (by decide)) _, h.nz,
    fun x hx => ((h.each x hx).row h.hy1 hg (by decide) (by decide)).blk hO (by decide) (by decide) _, h.apart, h.n1, h.n3, h.b3⟩
theorem RD.box (h : RD wr base gP gL gG gR gO P L G z1 y1 z2 K1 D1 K2 R) {g j : Nat} {cs : Array Value} (hb : Blk wr g 74 cs) (hy1 : y1.ownBlock ≠ some g) (u : Value) : RD (wr.setCell ⟨g, j, none⟩ u) base gP gL gG gR gO P L G z1 y1 z2 K1 D1 K2 R :=
  ⟨h.hP.far (h.hP.ne_ hb (by decide)) _, h.hL.far (h.hL.ne_ hb (by decide)) _, h.hG.far (h.hG.ne_ hb (by decide)) _, h.hR.far (h.hR.ne_ hb (by decide)) _, h.hO.far (h.hO.ne_ hb (by decide)) _, own_setCell h.hz1 (own_blk_ne h.hz1 hb (by decide)) _, own_setCell h.hy1 hy1 _, own_setCell h.hz2 (own_blk_ne h.hz2 hb (by decide)) _, h.nz,
    fun x hx => (h.each x hx).blk hb (by decide) (by decide) _, h.apart, h.n1, h.n3, h.b3⟩
end
end Go.Proofs.YtkkjfjbkhafaiaaDoor
