/- ropewalkref.Dropped: what it holds while it works, and what it computes. -/
import Derived.Test.YtokiekachlmigaaDoorBC
import Derived.Test.YtokiekachlmigaaDoorRefTo
import Derived.Test.YtokiekachlmigaaDoorRefOwn
import Derived.Test.YtokiekachlmigaaDoorDropW
import Derived.Laws.EntriesVeiled
set_option linter.all false
namespace Go.Proofs.YtokiekachlmigaaDoor
open Go.RowKit

structure RD (wr : World) (base gP gL gG gR gO : Nat) (P L G : Array Value) (z1 y1 z2 : Value) (K1 : List FgM) (D1 : List Df) (K2 : List FgM) (R : List FgM) : Prop where
  hP : Blk wr gP 25 P
  hL : Blk wr gL 26 L
  hG : Blk wr gG 101 G
  hR : Blk wr gR 25 #[.slice none 0 0, .slice none 0 0]
  hO : Blk wr gO 25 #[z1, y1]
  hz1 : wr.ownsRow base 92 6 z1 K1.length (fgsV K1)
  hy1 : wr.ownsRow base 31 6 y1 D1.length (dfsV D1)
  hz2 : wr.ownsRow base 92 6 z2 K2.length (fgsV K2)
  nz : ∀ g, z2.ownBlock = some g → z1.ownBlock ≠ some g
  each : ∀ x ∈ K1 ++ R, x.Own wr base
  apart : ApartR (K1 ++ R)
  n1 : gP ≠ gO
  n3 : gR ≠ gO
  b3 : base ≤ gO

section
variable {wr : World} {base gP gL gG gR gO : Nat} {P L G : Array Value} {z1 y1 z2 : Value} {K1 : List FgM} {D1 : List Df} {K2 : List FgM} {R : List FgM}
theorem RD.all (h : RD wr base gP gL gG gR gO P L G z1 y1 z2 K1 D1 K2 R) {w' : World} (hb : Below wr.heap.size wr w') : RD w' base gP gL gG gR gO P L G z1 y1 z2 K1 D1 K2 R :=
  ⟨h.hP.all hb, h.hL.all hb, h.hG.all hb, h.hR.all hb, h.hO.all hb, own_all h.hz1 hb, own_all h.hy1 hb, own_all h.hz2 hb, h.nz, fun x hx => (h.each x hx).all hb, h.apart, h.n1, h.n3, h.b3⟩
theorem RD.alloc (h : RD wr base gP gL gG gR gO P L G z1 y1 z2 K1 D1 K2 R) (o : Obj) : RD (wr.alloc o) base gP gL gG gR gO P L G z1 y1 z2 K1 D1 K2 R :=
  h.all ((Below.refl _ wr).alloc (Nat.le_refl _) o)
/-- One that goes: it is left behind. -/
theorem RD.skip {x : FgM} {R2 : List FgM} (h : RD wr base gP gL gG gR gO P L G z1 y1 z2 K1 D1 K2 (x :: R2)) : RD wr base gP gL gG gR gO P L G z1 y1 z2 K1 D1 K2 R2 :=
  ⟨h.hP, h.hL, h.hG, h.hR, h.hO, h.hz1, h.hy1, h.hz2, h.nz, fun y hy => h.each y (by rcases List.mem_append.1 hy with hy | hy; exact List.mem_append.2 (.inl hy); exact List.mem_append.2 (.inr (List.mem_cons_of_mem _ hy))),
    List.Pairwise.sublist (List.Sublist.append_left (List.sublist_cons_self x R2) K1) h.apart, h.n1, h.n3, h.b3⟩
theorem RD.setR {x : FgM} {R3 : List FgM} (h : RD wr base gP gL gG gR gO P L G z1 y1 z2 K1 D1 K2 (x :: R3)) {g : Nat} {R1 R2 : List Rel} {r : Rel} (hr : x.f.rs = R1 ++ r :: R2) (hg : x.ra = some ⟨g, 0, none⟩) (v : Int) :
    RD (wr.setCell ⟨g, R1.length * 5 + 3, none⟩ (.int .i64 v)) base gP gL gG gR gO P L G z1 y1 z2 K1 D1 K2 (x.withR (R1 ++ { r with frag := v } :: R2) :: R3) := by
  have hx := h.each x (by simp)
  have hb : x.reV.ownBlock = some g := by unfold FgM.reV; rw [hg]; rfl
  have hlen : (R1 ++ { r with frag := v } :: R2).length = x.f.rs.length := by rw [hr]; simp
  have n0 : ∀ {c : Nat} {t : TypeId} {cs : Array Value}, Blk wr c t cs → 94 ≠ t → c ≠ g := fun hc ht e => own_blk_ne hx.re hc ht (by rw [hb, e])
  refine ⟨h.hP.far (n0 h.hP (by decide)) _, h.hL.far (n0 h.hL (by decide)) _, h.hG.far (n0 h.hG (by decide)) _, h.hR.far (n0 h.hR (by decide)) _, h.hO.far (n0 h.hO (by decide)) _, own_setCell h.hz1 (own_ne_own hx.re h.hz1 (by decide) hb) _, own_setCell h.hy1 (own_ne_own hx.re h.hy1 (by decide) hb) _,
    own_setCell h.hz2 (own_ne_own hx.re h.hz2 (by decide) hb) _, h.nz, each_setR h.each h.apart hr hg v, apart_with h.apart ?_, h.n1, h.n3, h.b3⟩
  unfold FgM.withR FgM.reV
  simp [hlen]
theorem RD.pushF {x : FgM} {R2 : List FgM} (h : RD wr base gP gL gG gR gO P L G z1 y1 z2 K1 D1 K2 (x :: R2)) {w5 : World} {g c : Nat} (ho : w5.ownsRow base 92 6 (.slice (some ⟨g, 0, none⟩) (K1.length + 1) c) (K1.length + 1) (fgsV K1 ++ x.cells))
    (hg : wr.grownBy w5 z1.ownBlock) (hat : z1.ownBlock = some g ∨ g = wr.heap.size) :
    RD (w5.setCell ⟨gO, 0, none⟩ (.slice (some ⟨g, 0, none⟩) (K1.length + 1) c)) base gP gL gG gR gO P L G (.slice (some ⟨g, 0, none⟩) (K1.length + 1) c) y1 z2 (K1 ++ [x]) D1 K2 R2 := by
  have hO := h.hO.grown hg (own_blk_ne h.hz1 h.hO (by decide)).symm
  have ho' : w5.ownsRow base 92 6 (.slice (some ⟨g, 0, none⟩) (K1.length + 1) c) (K1 ++ [x]).length (fgsV (K1 ++ [x])) := by
    rw [fgsV_append, List.length_append]
    simpa [fgsV] using ho
  have h2 : z2.ownBlock = none ∨ z2.ownBlock ≠ z1.ownBlock := by
    rcases hb : z2.ownBlock with _ | k
    · exact .inl rfl
    · exact .inr fun e => h.nz k hb e.symm
  have hz2 := own_kept h.hz2 hg h2
  have hy1 := own_kept h.hy1 hg (own_row_ne h.hy1 h.hz1 (by decide))
  have nL := h.hL.ne_ h.hO (by decide)
  have nG := h.hG.ne_ h.hO (by decide)
  have n1 := h.n1
  have n3 := h.n3
  refine ⟨(h.hP.grown hg (own_blk_ne h.hz1 h.hP (by decide)).symm).far (by simp only; omega) _, (h.hL.grown hg (own_blk_ne h.hz1 h.hL (by decide)).symm).far (by simp only; omega) _, (h.hG.grown hg (own_blk_ne h.hz1 h.hG (by decide)).symm).far (by simp only; omega) _,
    (h.hR.grown hg (own_blk_ne h.hz1 h.hR (by decide)).symm).far (by simp only; omega) _, hO.set_ 0 _,
    own_setCell ho' (own_blk_ne ho' hO (by decide)) _, own_setCell hy1 (own_blk_ne hy1 hO (by decide)) _, own_setCell hz2 (own_blk_ne hz2 hO (by decide)) _, ?_, fun y hy => ?_, ?_, h.n1, h.n3, h.b3⟩
  · intro k hk e
    have e' : g = k := by simpa [Value.ownBlock] using e
    rcases hat with hat | hat
    · exact h.nz k hk (by rw [hat, e'])
    · have := (h.hz2.lt k hk).2
      omega
  · have hy' : y ∈ K1 ++ x :: R2 := by simpa using hy
    exact ((h.each y hy').row h.hz1 hg (by decide) (by decide)).blk hO (by decide) (by decide) _
  · have := h.apart
    rwa [List.append_cons] at this
theorem RD.hO5 (h : RD wr base gP gL gG gR gO P L G z1 y1 z2 K1 D1 K2 R) {w5 : World} (hg : wr.grownBy w5 z1.ownBlock) : Blk w5 gO 25 #[z1, y1] := h.hO.grown hg (own_blk_ne h.hz1 h.hO (by decide)).symm
theorem RD.hO6 (h : RD wr base gP gL gG gR gO P L G z1 y1 z2 K1 D1 K2 R) {w5 : World} (hg : wr.grownBy w5 y1.ownBlock) : Blk w5 gO 25 #[z1, y1] := h.hO.grown hg (own_blk_ne h.hy1 h.hO (by decide)).symm
theorem RD.belowF (h : RD wr base gP gL gG gR gO P L G z1 y1 z2 K1 D1 K2 R) {w w5 : World} (u : Value) (hb : Below base w wr) (hg : wr.grownBy w5 z1.ownBlock) : Below base w (w5.setCell ⟨gO, 0, none⟩ u) := by
  have h2 := h.hO.lt
  have h3 := h.b3
  exact (hb.grown hg (by omega) (fun g hg' => (h.hz1.lt g hg').1)).setCell (by simp only; omega) _
theorem RD.belowD (h : RD wr base gP gL gG gR gO P L G z1 y1 z2 K1 D1 K2 R) {w w5 : World} (u : Value) (hb : Below base w wr) (hg : wr.grownBy w5 y1.ownBlock) : Below base w (w5.setCell ⟨gO, 1, none⟩ u) := by
  have h2 := h.hO.lt
  have h3 := h.b3
  exact (hb.grown hg (by omega) (fun g hg' => (h.hy1.lt g hg').1)).setCell (by simp only; omega) _
theorem RD.pushD (h : RD wr base gP gL gG gR gO P L G z1 y1 z2 K1 D1 K2 R) {d : Df} {w5 : World} {v' : Value} (ho : w5.ownsRow base 31 6 v' (D1.length + 1) (dfsV D1 ++ d.cells)) (hg : wr.grownBy w5 y1.ownBlock) :
    RD (w5.setCell ⟨gO, 1, none⟩ v') base gP gL gG gR gO P L G z1 v' z2 K1 (D1 ++ [d]) K2 R := by
  have hO := h.hO.grown hg (own_blk_ne h.hy1 h.hO (by decide)).symm
  have ho' : w5.ownsRow base 31 6 v' (D1 ++ [d]).length (dfsV (D1 ++ [d])) := by
    rw [dfsV_append, List.length_append]
    simpa [dfsV] using ho
  have hz1 := own_kept h.hz1 hg (own_row_ne h.hz1 h.hy1 (by decide))
  have hz2 := own_kept h.hz2 hg (own_row_ne h.hz2 h.hy1 (by decide))
  have nL := h.hL.ne_ h.hO (by decide)
  have nG := h.hG.ne_ h.hO (by decide)
  have n1 := h.n1
  have n3 := h.n3
  exact ⟨(h.hP.grown hg (own_blk_ne h.hy1 h.hP (by decide)).symm).far (by simp only; omega) _, (h.hL.grown hg (own_blk_ne h.hy1 h.hL (by decide)).symm).far (by simp only; omega) _, (h.hG.grown hg (own_blk_ne h.hy1 h.hG (by decide)).symm).far (by simp only; omega) _,
    (h.hR.grown hg (own_blk_ne h.hy1 h.hR (by decide)).symm).far (by simp only; omega) _, hO.set_ 1 _,
    own_setCell hz1 (own_blk_ne hz1 hO (by decide)) _, own_setCell ho' (own_blk_ne ho' hO (by decide)) _, own_setCell hz2 (own_blk_ne hz2 hO (by decide)) _, h.nz,
    fun x hx => ((h.each x hx).row h.hy1 hg (by decide) (by decide)).blk hO (by decide) (by decide) _, h.apart, h.n1, h.n3, h.b3⟩
theorem RD.box (h : RD wr base gP gL gG gR gO P L G z1 y1 z2 K1 D1 K2 R) {g j : Nat} {cs : Array Value} (hb : Blk wr g 31 cs) (hy1 : y1.ownBlock ≠ some g) (u : Value) : RD (wr.setCell ⟨g, j, none⟩ u) base gP gL gG gR gO P L G z1 y1 z2 K1 D1 K2 R :=
  ⟨h.hP.far (h.hP.ne_ hb (by decide)) _, h.hL.far (h.hL.ne_ hb (by decide)) _, h.hG.far (h.hG.ne_ hb (by decide)) _, h.hR.far (h.hR.ne_ hb (by decide)) _, h.hO.far (h.hO.ne_ hb (by decide)) _, own_setCell h.hz1 (own_blk_ne h.hz1 hb (by decide)) _, own_setCell h.hy1 hy1 _, own_setCell h.hz2 (own_blk_ne h.hz2 hb (by decide)) _, h.nz,
    fun x hx => (h.each x hx).blk hb (by decide) (by decide) _, h.apart, h.n1, h.n3, h.b3⟩
end
theorem toP_gone {l : List ByteArray} {c : List Frg} {k : Nat} {x : Frg} (h : c[k]? = some x) : toP l c k = if x.gone l then -1 else ((keepF l (c.take k)).length : Int) := by
  unfold toP
  rw [if_neg (by omega), Int.toNat_natCast]
  exact to_get l h
theorem toP_re {l : List ByteArray} {c : List Frg} {r : Rel} {n : Nat} (h : r.okIn n) (h0 : r.name.size = 0) : r.re (toOf l c) = { r with frag := toP l c r.frag } := by
  have h2 := h h0
  unfold toP
  by_cases hn : r.frag < 0
  · rw [if_pos hn]
    have : r.frag = -1 := by omega
    unfold Rel.re
    rw [if_neg (fun hh => by omega), ← this]
  · rw [if_neg hn]
    exact Rel.re_at ⟨h0, by omega⟩ rfl
theorem toP_df {l : List ByteArray} {c : List Frg} {d : Df} (h : d.kind ≠ 3) (h0 : 0 ≤ d.frag) : d.re (toOf l c) = { d with frag := toP l c d.frag } := by
  unfold toP
  rw [if_neg (by omega)]
  exact Df.re_at h rfl
theorem re_named {r : Rel} {tt : List Int} (h : 0 < r.name.size) : r.re tt = r := if_neg (fun hn => by omega)

theorem rdW0 (p : PtM) (A : Option Addr) (c : Nat) (l : List ByteArray) (w : World) :
    Blk (((((w.alloc (.cells #[.slice p.fa p.frs.length p.fc, .slice p.da p.dfs.length p.dc] 25)).alloc (.cells #[.slice A l.length c] 26)).alloc (.cells #[.slice none 0 0, .slice none 0 0] 25)).alloc (.cells #[goneV w.heap.size (w.heap.size + 1)] 101)).alloc (.cells #[.slice none 0 0, .slice none 0 0] 25)) w.heap.size 25 #[.slice p.fa p.frs.length p.fc, .slice p.da p.dfs.length p.dc] ∧ Blk (((((w.alloc (.cells #[.slice p.fa p.frs.length p.fc, .slice p.da p.dfs.length p.dc] 25)).alloc (.cells #[.slice A l.length c] 26)).alloc (.cells #[.slice none 0 0, .slice none 0 0] 25)).alloc (.cells #[goneV w.heap.size (w.heap.size + 1)] 101)).alloc (.cells #[.slice none 0 0, .slice none 0 0] 25)) (w.heap.size + 1) 26 #[.slice A l.length c] ∧
    Blk (((((w.alloc (.cells #[.slice p.fa p.frs.length p.fc, .slice p.da p.dfs.length p.dc] 25)).alloc (.cells #[.slice A l.length c] 26)).alloc (.cells #[.slice none 0 0, .slice none 0 0] 25)).alloc (.cells #[goneV w.heap.size (w.heap.size + 1)] 101)).alloc (.cells #[.slice none 0 0, .slice none 0 0] 25)) (w.heap.size + 2) 25 #[.slice none 0 0, .slice none 0 0] ∧ Blk (((((w.alloc (.cells #[.slice p.fa p.frs.length p.fc, .slice p.da p.dfs.length p.dc] 25)).alloc (.cells #[.slice A l.length c] 26)).alloc (.cells #[.slice none 0 0, .slice none 0 0] 25)).alloc (.cells #[goneV w.heap.size (w.heap.size + 1)] 101)).alloc (.cells #[.slice none 0 0, .slice none 0 0] 25)) (w.heap.size + 3) 101 #[goneV w.heap.size (w.heap.size + 1)] ∧
    Blk (((((w.alloc (.cells #[.slice p.fa p.frs.length p.fc, .slice p.da p.dfs.length p.dc] 25)).alloc (.cells #[.slice A l.length c] 26)).alloc (.cells #[.slice none 0 0, .slice none 0 0] 25)).alloc (.cells #[goneV w.heap.size (w.heap.size + 1)] 101)).alloc (.cells #[.slice none 0 0, .slice none 0 0] 25)) (w.heap.size + 4) 25 #[.slice none 0 0, .slice none 0 0] ∧ Below w.heap.size w (((((w.alloc (.cells #[.slice p.fa p.frs.length p.fc, .slice p.da p.dfs.length p.dc] 25)).alloc (.cells #[.slice A l.length c] 26)).alloc (.cells #[.slice none 0 0, .slice none 0 0] 25)).alloc (.cells #[goneV w.heap.size (w.heap.size + 1)] 101)).alloc (.cells #[.slice none 0 0, .slice none 0 0] 25)) ∧ (((((w.alloc (.cells #[.slice p.fa p.frs.length p.fc, .slice p.da p.dfs.length p.dc] 25)).alloc (.cells #[.slice A l.length c] 26)).alloc (.cells #[.slice none 0 0, .slice none 0 0] 25)).alloc (.cells #[goneV w.heap.size (w.heap.size + 1)] 101)).alloc (.cells #[.slice none 0 0, .slice none 0 0] 25)).heap.size = w.heap.size + 5 :=
  ⟨((((Blk.new' _ _ _ rfl).alloc _).alloc _).alloc _).alloc _, (((Blk.new' _ _ _ (by simp)).alloc _).alloc _).alloc _, ((Blk.new' _ _ _ (by simp)).alloc _).alloc _,
    (Blk.new' _ _ _ (by simp)).alloc _, Blk.new' _ _ _ (by simp), by (repeat' (first | exact Below.refl _ _ | assumption | refine Below.setCell ?_ (by first | omega | exact Below.size (by assumption) | (simp; done) | (simp; omega)) _ | refine Below.alloc ?_ (by first | omega | exact Below.size (by assumption) | (simp; done) | (simp; omega)) _ | refine Below.drew ?_ | refine below_drewN ?_ _)), by simp⟩

set_option maxRecDepth 100000 in
set_option maxHeartbeats 20000000 in
theorem refDrop_any (p : PtM) (A : Option Addr) (c : Nat) (l : List ByteArray) (w : World) (h : p.At w w.heap.size) (hok : p.er.Ok) (hl : Reads w w.heap.size 1 A l.length (strsV l)) (hlm : l.length ≤ 9223372036854775807) :
    Calls Tryd.prog 132 #[.agg #[.slice p.fa p.frs.length p.fc, .slice p.da p.dfs.length p.dc], .slice A l.length c] w (DropIs w p.er l) := by
  have hs := small_of ((ok_iff _).2 hok)
  have hn := hs.fr
  obtain ⟨hP, hL, hR, hG, hO, hb0, hz0⟩ := rdW0 p A c l w
  have h1 := h.all hb0
  obtain ⟨i0, hi, hiz, his, hib⟩ := info_parts Tryd.infoFrags
  unfold DropIs
  go_enter Tryd.func132, Tryd.ntmps132
  have hmf : ∀ (fn : Fn) (first cap : Array Value) (w : World), (Instr.makeFunc fn first cap).run Tryd.prog w = .ok (.func fn first cap) w := fun _ _ _ _ => rfl
  go_wp2_with fail
  clear hmf
  obtain ⟨W0, hW0⟩ : ∃ W, W = (((((w.alloc (.cells #[.slice p.fa p.frs.length p.fc, .slice p.da p.dfs.length p.dc] 25)).alloc (.cells #[.slice A l.length c] 26)).alloc (.cells #[.slice none 0 0, .slice none 0 0] 25)).alloc (.cells #[goneV w.heap.size (w.heap.size + 1)] 101)).alloc (.cells #[.slice none 0 0, .slice none 0 0] 25)) := ⟨_, rfl⟩
  have hW0' := hW0
  unfold goneV at hW0
  rw [← hW0]
  rw [← hW0'] at hP hL hR hG hO hb0 hz0 h1
  clear hW0 hW0'
  obtain ⟨gO, hgO⟩ : ∃ g, g = w.heap.size + 1 + 1 + 1 + 1 := ⟨_, rfl⟩
  obtain ⟨gG, hgG⟩ : ∃ g, g = w.heap.size + 1 + 1 + 1 := ⟨_, rfl⟩
  obtain ⟨gR, hgR⟩ : ∃ g, g = w.heap.size + 1 + 1 := ⟨_, rfl⟩
  obtain ⟨gL, hgL⟩ : ∃ g, g = w.heap.size + 1 := ⟨_, rfl⟩
  rw [← hgO, ← hgG, ← hgR, ← hgL]
  rw [show w.heap.size + 4 = gO from hgO.symm] at hO
  rw [show w.heap.size + 3 = gG from hgG.symm] at hG
  rw [show w.heap.size + 2 = gR from hgR.symm] at hR
  rw [show w.heap.size + 1 = gL from hgL.symm] at hL hG
  refine (refOwn_any p _ h1 hs.fit).mono ?_
  rintro e w1 ⟨⟨qf, qd, qa, qc, qda, qdc⟩, rfl, ⟨ownf, ownd, owne, ownA⟩, her, hb1⟩
  dsimp only at ownf ownd owne ownA ⊢
  have hlen : qf.length = p.frs.length := by
    have := congrArg (fun r => r.frs.length) her
    simpa [PtM.er] using this
  have hq60 : qf.length ≤ 60 := by omega
  have l1 : p.frs.length = qf.length := hlen.symm
  have HLN := Lib.hid l1
  have hb01 : Below w.heap.size w w1 := hb0.trans (hb1.mono hb0.size)
  have hzz : w.heap.size ≤ W0.heap.size := hb0.size
  have hDA : RD w1 w.heap.size w.heap.size gL gG gR gO #[.slice p.fa p.frs.length p.fc, .slice p.da p.dfs.length p.dc] #[.slice A l.length c] #[goneV w.heap.size gL] (.slice none 0 0) (.slice none 0 0) (.slice qa qf.length qc) [] [] qf qf :=
    ⟨hP.all hb1, hL.all hb1, hG.all hb1, hR.all hb1, hO.all hb1, World.ownsRow_nil _ _ _ _, World.ownsRow_nil _ _ _ _, ownf.mono hzz, (fun g _ e => by simp [Value.ownBlock] at e), fun x hx => ⟨(owne x (by simpa using hx)).by_.mono hzz, (owne x (by simpa using hx)).re.mono hzz⟩, by simpa using ownA, by omega, by omega, by omega⟩
  have HF : Hid (∀ (k : Nat) x, qf[k]? = some x → ∃ y, p.frs[k]? = some y ∧ y.f = x.f) := fun k x hx => by
    have e : (qf.map FgM.f) = p.frs.map FgM.f := congrArg Prt.frs her
    have h2 : (qf.map FgM.f)[k]? = some x.f := by simp [hx]
    rw [e] at h2
    simpa using h2
  have HQ : Hid ((qf.map FgM.f) = p.er.frs) := congrArg Prt.frs her
  have HGO : Hid (∀ (k : Nat) x W, qf[k]? = some x → Below w.heap.size w W → Blk W w.heap.size 25 #[.slice p.fa p.frs.length p.fc, .slice p.da p.dfs.length p.dc] → Blk W gL 26 #[.slice A l.length c] →
      Calls Tryd.prog 170 #[.int .i64 k, .pointer (some ⟨w.heap.size, 0, none⟩), .pointer (some ⟨gL, 0, none⟩)] W fun e w' => e = .returned (.bool (x.f.gone l)) ∧ Below W.heap.size W w') := fun k x W hx hb k1 k2 => by
    obtain ⟨y, hy, hyx⟩ := HF.out k x hx
    rw [← hyx]
    exact gone_any p A c l k y hy w.heap.size gL W k1 k2 (h.keep hb hb.size) ((hl.below hb).more hb.size) hlm
  have HTO : Hid (∀ (i : Int) W, i < p.frs.length → Below w.heap.size w W → Blk W w.heap.size 25 #[.slice p.fa p.frs.length p.fc, .slice p.da p.dfs.length p.dc] → Blk W gL 26 #[.slice A l.length c] → Blk W gG 101 #[goneV w.heap.size gL] →
      Calls Tryd.prog 171 #[.int .i64 i, .pointer (some ⟨gG, 0, none⟩)] W fun e w' => e = .returned (.int .i64 (toP l p.er.frs i)) ∧ Below W.heap.size W w') := fun i W hi hb k1 k2 k3 =>
    to_any p A c l i hi (by omega) gG w.heap.size gL W k3 k1 k2 (h.keep hb hb.size) ((hl.below hb).more hb.size) hlm
  have HER := Lib.hid her
  have HHS := Lib.hid hs
  have HPD := Lib.hid h.df
  have HPM := h.dm
  clear her hlen ownf ownd owne ownA hP hL hR hG hO h1 hb0 hb1 hz0 hzz l1
  replace hgO := Lib.hid hgO
  replace hgG := Lib.hid hgG
  replace hgR := Lib.hid hgR
  replace hgL := Lib.hid hgL
  have hfd := partField0 qa qf.length qc qda qd.length qdc
  go_wp2_with fail
  clear hfd
  go_loopw [20] (fun i wr => ∃ (k : Nat) (z1 : Value) (K1 : List FgM), k ≤ qf.length ∧ i = .int .i64 k ∧ Hid (K1 = (keptUp l qf k).map (FgM.mapR (Rel.re (toOf l p.er.frs)))) ∧ RD wr w.heap.size w.heap.size gL gG gR gO #[.slice p.fa p.frs.length p.fc, .slice p.da p.dfs.length p.dc] #[.slice A l.length c] #[goneV w.heap.size gL] z1 (.slice none 0 0) (.slice qa qf.length qc) K1 [] qf (qf.drop k) ∧ Below w.heap.size w wr) (fun i _ => qf.length - (intOf i).toNat)
  case atStart => exact ⟨0, _, [], Nat.zero_le _, rfl, Lib.hid (by simp [keptUp]), by simpa using hDA, hb01⟩
  case round =>
    clear hDA hb01
    obtain ⟨k, z1, K1, hk, rfl, hK1, hA, hb⟩ := hrel
    obtain ⟨wo, hwo⟩ : ∃ wo, wo = wr := ⟨_, rfl⟩
    subst hwo
    obtain ⟨Az, cz, rfl, hz1a, hz1b⟩ := own_form hA.hz1
    have gOl := hA.hO.lt
    have hn1 := hA.n1
    have hn3 := hA.n3
    have hK1l : K1.length ≤ 60 := by
      rw [hK1.out, List.length_map]
      exact Nat.le_trans (keptUp_le l qf k) hq60
    by_cases hlt : k < qf.length
    · obtain ⟨x, hx⟩ : ∃ x, qf[k]? = some x := ⟨_, List.getElem?_eq_getElem hlt⟩
      have HX := Lib.hid hx
      obtain ⟨y, hym, hyf⟩ := HF.out k x hx
      have hx8 : x.f.rs.length ≤ 8 := by rw [← hyf]; exact HHS.out.re y (List.mem_of_getElem? hym)
      have hxr : Hid (∀ r ∈ x.f.rs, r.okIn p.frs.length) := fun r hr => by
        have := hok.right.rel x.f (by rw [← hyf]; exact List.mem_map_of_mem (List.mem_of_getElem? hym)) r hr
        rwa [show p.er.frs.length = p.frs.length by simp [PtM.er]] at this
      clear hym hyf y
      obtain ⟨R2, hR2⟩ : ∃ R2, qf.drop (k + 1) = R2 := ⟨_, rfl⟩
      have hdr : qf.drop k = x :: R2 := by
        obtain ⟨hk', hv⟩ := List.getElem?_eq_some_iff.1 hx
        rw [List.drop_eq_getElem_cons hk', hv, hR2]
      rw [hdr] at hA
      have HR2 := Lib.hid hR2
      have HI : Hid (x.f.gone l = false → keptUp l qf (k + 1) = keptUp l qf k ++ [x]) := keptUp_in hx
      have HU : Hid (x.f.gone l = true → keptUp l qf (k + 1) = keptUp l qf k) := keptUp_out hx
      obtain ⟨b', off, rfl, bl, c0, c1, c2, c3, c4, c5⟩ := fg_get (Reads.of_own hA.hz2) hx
      clear hx hR2 hdr
      go_upto_region 7 with (fail)
      have hA2 := hA.alloc (.cells #[.int .i64 x.f.sect, .int .i64 x.f.align, .string x.f.group, .slice x.ba x.f.bs.length x.bc, .int .i64 x.f.size, .slice x.ra x.f.rs.length x.rc] 92)
      have hF2 := Blk.new wo 92 #[.int .i64 x.f.sect, .int .i64 x.f.align, .string x.f.group, .slice x.ba x.f.bs.length x.bc, .int .i64 x.f.size, .slice x.ra x.f.rs.length x.rc]
      have hb2 := hb.alloc hb.size (.cells #[.int .i64 x.f.sect, .int .i64 x.f.align, .string x.f.group, .slice x.ba x.f.bs.length x.bc, .int .i64 x.f.size, .slice x.ra x.f.rs.length x.rc] 92)
      have gd : wo.heap.size < (wo.alloc (.cells #[.int .i64 x.f.sect, .int .i64 x.f.align, .string x.f.group, .slice x.ba x.f.bs.length x.bc, .int .i64 x.f.size, .slice x.ra x.f.rs.length x.rc] 92)).heap.size := by simp
      obtain ⟨W2, hW2⟩ : ∃ W, W = wo.alloc (.cells #[.int .i64 x.f.sect, .int .i64 x.f.align, .string x.f.group, .slice x.ba x.f.bs.length x.bc, .int .i64 x.f.size, .slice x.ra x.f.rs.length x.rc] 92) := ⟨_, rfl⟩
      rw [← hW2] at hA2 hF2 hb2 gd ⊢
      clear hW2 hA hb c0 c1 c2 c3 c4 c5 bl
      have dG := hA2.hG.cell 0
      unfold goneV at dG
      have HC := HGO.out k x W2 HX.out hb2 hA2.hP hA2.hL
      obtain ⟨bg, hbg⟩ : ∃ bg, x.f.gone l = bg := ⟨_, rfl⟩
      rw [hbg] at HC HI HU
      clear hbg
      replace HC := Lib.hid HC
      rcases bg with _ | _
      · have HK : Hid (keptUp l qf (k + 1) = keptUp l qf k ++ [x]) := HI.out rfl
        clear HI HU
        go_upto_region 8 with (go_at_call 170; refine HC.out.mono ?_; rintro e w3 ⟨rfl, hb3⟩)
        replace hb3 := Lib.hid hb3
        have hA3 := hA2.all hb3.out
        have hF3 := hF2.all hb3.out
        have hb3' := hb2.trans (hb3.out.mono hb2.size)
        have gd3 := Nat.lt_of_lt_of_le gd hb3.out.size
        clear hA2 hF2 hb2 gd hb3 dG
        have d5 := hF3.cell 5
        go_wp2_with fail
        clear d5
        have HN : Hid (∀ n', keptUp l qf (k + 1) = keptUp l qf k ++ [x] → K1 ++ [n'] = K1 ++ [n']) := fun _ _ => rfl
        have HT : Hid (K1 ++ [x.mapR (Rel.re (toOf l p.er.frs))] = (keptUp l qf (k + 1)).map (FgM.mapR (Rel.re (toOf l p.er.frs)))) := by
          show _ = _
          rw [HK.out, List.map_append, ← hK1.out]; rfl
        clear HN
        have HV : Hid (∀ r : Rel, r.okIn p.frs.length → r.name.size = 0 → r.re (toOf l p.er.frs) = { r with frag := toP l p.er.frs r.frag }) := fun r h1 h2 => toP_re h1 h2
        have HVN : Hid (∀ r : Rel, 0 < r.name.size → r.re (toOf l p.er.frs) = r) := fun r h1 => re_named h1
        obtain ⟨T, hT⟩ : ∃ T, toOf l p.er.frs = T := ⟨_, rfl⟩
        rw [hT] at HT HV HVN
        replace hT := Lib.hid hT
        go_loopw [31] (fun i wr => ∃ j : Nat, j ≤ x.f.rs.length ∧ i = .int .i64 j ∧ RD wr w.heap.size w.heap.size gL gG gR gO #[.slice p.fa p.frs.length p.fc, .slice p.da p.dfs.length p.dc] #[.slice A l.length c] #[goneV w.heap.size gL] (.slice Az K1.length cz) (.slice none 0 0) (.slice (some ⟨b', off, none⟩) qf.length qc) K1 [] qf (x.withR ((x.f.rs.take j).map (Rel.re T) ++ x.f.rs.drop j) :: R2) ∧
          Blk wr wo.heap.size 92 #[.int .i64 x.f.sect, .int .i64 x.f.align, .string x.f.group, .slice x.ba x.f.bs.length x.bc, .int .i64 x.f.size, .slice x.ra x.f.rs.length x.rc] ∧ Below w.heap.size w wr) (fun i _ => x.f.rs.length - (intOf i).toNat)
        case atStart => exact ⟨0, Nat.zero_le _, rfl, hA3, hF3, hb3'⟩
        case round =>
          clear hA3 hF3 hb3'
          obtain ⟨j, hj, rfl, hBi, hFi, hbi⟩ := hrel
          by_cases hjl : j < x.f.rs.length
          · obtain ⟨r, hr⟩ : ∃ r, x.f.rs[j]? = some r := ⟨_, List.getElem?_eq_getElem hjl⟩
            have hro := hxr.out r (List.mem_of_getElem? hr)
            obtain ⟨Q1, hQ1⟩ : ∃ Q1, (x.f.rs.take j).map (Rel.re T) = Q1 := ⟨_, rfl⟩
            obtain ⟨Q2, hQ2⟩ : ∃ Q2, x.f.rs.drop (j + 1) = Q2 := ⟨_, rfl⟩
            have hr1 : Q1.length = j := by rw [← hQ1]; simp; omega
            have hsp : (x.f.rs.take j).map (Rel.re T) ++ x.f.rs.drop j = Q1 ++ r :: Q2 := by
              obtain ⟨hk', hv⟩ := List.getElem?_eq_some_iff.1 hr
              rw [List.drop_eq_getElem_cons hk', hv, hQ1, hQ2]
            have HJ : Hid ((x.f.rs.take (j + 1)).map (Rel.re T) ++ x.f.rs.drop (j + 1) = Q1 ++ r.re T :: Q2) := by
              show _ = _
              rw [List.take_add_one, hr, List.map_append, hQ1, hQ2]; simp
            have hrl : (Q1 ++ r :: Q2).length = x.f.rs.length := by
              rw [← hQ1, ← hQ2]; simp; omega
            rw [hsp] at hBi
            have hxo := (hBi.each (x.withR (Q1 ++ r :: Q2)) (by simp)).re
            obtain ⟨g, cap, hv, hg0, hg1⟩ := hxo.form (by show 0 < (Q1 ++ r :: Q2).length; omega)
            have hra : x.ra = some ⟨g, 0, none⟩ := by
              have h2 : Value.slice x.ra (Q1 ++ r :: Q2).length x.rc = .slice (some ⟨g, 0, none⟩) (Q1 ++ r :: Q2).length cap := hv
              injection h2
            have hRd : Reads wr wr.heap.size 5 x.ra (Q1 ++ r :: Q2).length (relsV (Q1 ++ r :: Q2)) := Reads.of_own (show wr.ownsRow _ _ _ (.slice x.ra (Q1 ++ r :: Q2).length x.rc) _ _ from hxo)
            obtain ⟨g', o', he', bl', c0, c1, c2, c3, c4⟩ := rel_get hRd (show (Q1 ++ r :: Q2)[j]? = some r by rw [List.getElem?_append_right (by omega), hr1, Nat.sub_self]; rfl)
            obtain ⟨rfl, rfl⟩ : g' = g ∧ o' = 0 := by
              rw [hra] at he'
              injection he' with he'
              injection he' with h1 h2
              exact ⟨h1.symm, h2.symm⟩
            rw [Nat.zero_add] at c0 c1 c2 c3 c4
            have gne : g' ≠ wo.heap.size := fun e => own_blk_ne hxo hFi (by decide) (by rw [hv, e]; rfl)
            replace hr1 := Lib.hid hr1
            replace hrl := Lib.hid hrl
            have HRA := Lib.hid hra
            clear hxo hRd hv hsp hQ1 hQ2 hr he'
            rw [hra]
            go_upto_region 11 with (fail)
            have hB3 := hBi.alloc (.cells #[.int .i64 r.at_, .int .i64 r.kind, .string r.name, .int .i64 r.frag, .int .i64 r.add] 94)
            have hF3 := hFi.alloc (.cells #[.int .i64 r.at_, .int .i64 r.kind, .string r.name, .int .i64 r.frag, .int .i64 r.add] 94)
            have hX3 := Blk.new wr 94 #[.int .i64 r.at_, .int .i64 r.kind, .string r.name, .int .i64 r.frag, .int .i64 r.add]
            have hb3 := hbi.alloc hbi.size (.cells #[.int .i64 r.at_, .int .i64 r.kind, .string r.name, .int .i64 r.frag, .int .i64 r.add] 94)
            have glt : g' < wr.heap.size := bl'
            have wlt : wo.heap.size < wr.heap.size := hFi.lt
            obtain ⟨W3, hW3⟩ : ∃ W, W = wr.alloc (.cells #[.int .i64 r.at_, .int .i64 r.kind, .string r.name, .int .i64 r.frag, .int .i64 r.add] 94) := ⟨_, rfl⟩
            have gl3 : wr.heap.size < W3.heap.size := by rw [hW3]; simp
            rw [← hW3] at hB3 hF3 hX3 hb3 ⊢
            clear hW3 hBi hFi hbi c0 c1 c2 c3 c4 bl'
            have x2 := hX3.cell 2
            rw [HRA.out] at hF3
            rcases Nat.eq_zero_or_pos r.name.size with hn0 | hn0
            · have hrl2 := (hro hn0).2
              have HRE := Lib.hid (HV.out r hro hn0)
              have tn := toList_nil hn0
              clear hn0 hro
              go_upto_region 12 with (fail)
              have hdr : Below W3.heap.size W3 W3.drew := (Below.refl _ W3).drew
              have hB4 := hB3.all hdr
              have hF4 := hF3.all hdr
              have hX4 := hX3.all hdr
              have hb4 := hb3.trans (hdr.mono hb3.size)
              have gl4 : wr.heap.size < W3.drew.heap.size := Nat.lt_of_lt_of_le gl3 hdr.size
              clear hB3 hF3 hX3 hb3 hdr x2 gl3
              refine wp_region_held_drew (S := (fun w' => w'.cell? ⟨wo.heap.size, 5, none⟩ = some (.slice (some ⟨g', 0, none⟩) x.f.rs.length x.rc) ∧ w'.cell? ⟨wr.heap.size, 3, none⟩ = some (.int .i64 r.frag))) (by kernel_rfl) ⟨hF4.cell 5, hX4.cell 3⟩ (fun hHeld => ?_)
              (refine wpAnyH_take (i := 0) (oi := { dst := some 39, op := Op.fieldAddr 92 (Operand.tmp 9) 5, type := 0, pos := "parts.go:294", after := #[], guard := none }) (v := ?_) rfl (by kernel_rfl) (by kernel_rfl) (by kernel_rfl) (fun _ _ _ h => h) (Or.inl ⟨by rfl, ?_⟩) (by assumption) ?_; rotate_left; (focus (intro w hSw; (try dsimp only at hSw); go_simp; (try with_reducible rfl))); (try simp only [Act.put, List.setIfInBounds_toArray, List.set_cons_zero, List.set_cons_succ]))
              (refine wpAnyH_take (i := 1) (oi := { dst := some 40, op := Op.load 90 (Operand.tmp 39), type := 90, pos := "parts.go:294", after := #[{ on := 0, ground := Ground.data }], guard := none }) (v := ?_) rfl (by kernel_rfl) (by kernel_rfl) (by kernel_rfl) (fun _ _ _ h => h) (Or.inl ⟨by rfl, ?_⟩) (by assumption) ?_; rotate_left; (focus (intro w hSw; (try dsimp only at hSw); go_simp; (try with_reducible rfl))); (try simp only [Act.put, List.setIfInBounds_toArray, List.set_cons_zero, List.set_cons_succ]))
              (refine wpAnyH_take (i := 2) (oi := { dst := some 41, op := Op.move (Operand.tmp 10), type := 3, pos := "parts.go:294", after := #[], guard := none }) (v := ?_) rfl (by kernel_rfl) (by kernel_rfl) (by kernel_rfl) (fun _ _ _ h => h) (Or.inl ⟨by rfl, ?_⟩) (by assumption) ?_; rotate_left; (focus (intro w hSw; (try dsimp only at hSw); go_simp; (try with_reducible rfl))); (try simp only [Act.put, List.setIfInBounds_toArray, List.set_cons_zero, List.set_cons_succ]))
              (refine wpAnyH_take (i := 3) (oi := { dst := some 42, op := Op.move (Operand.tmp 6), type := 168, pos := "parts.go:294", after := #[], guard := none }) (v := ?_) rfl (by kernel_rfl) (by kernel_rfl) (by kernel_rfl) (fun _ _ _ h => h) (Or.inl ⟨by rfl, ?_⟩) (by assumption) ?_; rotate_left; (focus (intro w hSw; (try dsimp only at hSw); go_simp; (try with_reducible rfl))); (try simp only [Act.put, List.setIfInBounds_toArray, List.set_cons_zero, List.set_cons_succ]))
              (refine wpAnyH_take (i := 4) (oi := { dst := some 43, op := Op.fieldAddr 94 (Operand.tmp 11) 3, type := 0, pos := "parts.go:294", after := #[], guard := none }) (v := ?_) rfl (by kernel_rfl) (by kernel_rfl) (by kernel_rfl) (fun _ _ _ h => h) (Or.inl ⟨by rfl, ?_⟩) (by assumption) ?_; rotate_left; (focus (intro w hSw; (try dsimp only at hSw); go_simp; (try with_reducible rfl))); (try simp only [Act.put, List.setIfInBounds_toArray, List.set_cons_zero, List.set_cons_succ]))
              (refine wpAnyH_take (i := 5) (oi := { dst := some 44, op := Op.load 3 (Operand.tmp 43), type := 3, pos := "parts.go:294", after := #[{ on := 4, ground := Ground.data }], guard := none }) (v := ?_) rfl (by kernel_rfl) (by kernel_rfl) (by kernel_rfl) (fun _ _ _ h => h) (Or.inl ⟨by rfl, ?_⟩) (by assumption) ?_; rotate_left; (focus (intro w hSw; (try dsimp only at hSw); go_simp; (try with_reducible rfl))); (try simp only [Act.put, List.setIfInBounds_toArray, List.set_cons_zero, List.set_cons_succ]))
              (refine wpAnyH_ready (rs := [6]) (by kernel_rfl) (by simp) ?_; refine AllReadyH.cons (o := { dst := some 45, op := Op.call { callee := Callee.value (Operand.tmp 42), args := #[Operand.tmp 44], argTypes := #[3] }, type := 3, pos := "parts.go:294", after := #[{ on := 3, ground := Ground.data }, { on := 5, ground := Ground.data }], guard := none }) rfl (fun K hK => ?_) AllReadyH.nil)
              go_simp
              (go_at_call 171; refine (HTO.out r.frag _ hrl2 hb4 hB4.hP hB4.hL hB4.hG).mono ?_; rintro e w5 ⟨rfl, hs⟩)
              go_wp2_with fail
              have hB5 := hB4.all hs
              have hF5 := hF4.all hs
              have hX5 := hX4.all hs
              have hb5 := hb4.trans (hs.mono hb4.size)
              refine hK.out _ _ ⟨hF5.cell 5, hX5.cell 3⟩ (fun hHeld => ?_)
              (clear hK K; (try simp only [Act.put, List.setIfInBounds_toArray, List.set_cons_zero, List.set_cons_succ]))
              clear hB4 hF4 hX4 hb4 hs gl4
              have hxo5 := (hB5.each (x.withR (Q1 ++ r :: Q2)) (by simp)).re
              have hRd5 : Reads w5 w5.heap.size 5 x.ra (Q1 ++ r :: Q2).length (relsV (Q1 ++ r :: Q2)) := Reads.of_own (show w5.ownsRow _ _ _ (.slice x.ra (Q1 ++ r :: Q2).length x.rc) _ _ from hxo5)
              have hfz : w5.ownsRow w.heap.size 94 5 (.slice (some ⟨g', 0, none⟩) (Q1 ++ r :: Q2).length x.rc) (Q1 ++ r :: Q2).length (relsV (Q1 ++ r :: Q2)) := by
                have h2 : w5.ownsRow w.heap.size 94 5 (.slice x.ra (Q1 ++ r :: Q2).length x.rc) (Q1 ++ r :: Q2).length (relsV (Q1 ++ r :: Q2)) := hxo5
                rw [HRA.out] at h2
                exact h2
              have q3f := hfz.frozenAt (j * 5 + 3)
              obtain ⟨g2, o2, he2, bl2, d0, d1, d2, d3, d4⟩ := rel_get hRd5 (show (Q1 ++ r :: Q2)[j]? = some r by rw [List.getElem?_append_right (by rw [hr1.out]; exact Nat.le_refl _), hr1.out, Nat.sub_self]; rfl)
              rw [HRA.out] at he2
              obtain ⟨rfl, rfl⟩ : g2 = g' ∧ o2 = 0 := by
                injection he2 with he2
                injection he2 with h1 h2
                exact ⟨h1.symm, h2.symm⟩
              rw [Nat.zero_add] at d3
              clear d0 d1 d2 d4 he2 hRd5 hxo5 hfz
              (refine wpAnyH_take (i := 7) (oi := { dst := some 46, op := Op.indexAddr 90 (Operand.tmp 40) (Operand.tmp 41), type := 0, pos := "parts.go:294", after := #[{ on := 1, ground := Ground.data }, { on := 2, ground := Ground.data }, { on := 0, ground := Ground.phase }, { on := 1, ground := Ground.phase }, { on := 2, ground := Ground.phase }, { on := 3, ground := Ground.phase }, { on := 4, ground := Ground.phase }, { on := 5, ground := Ground.phase }, { on := 6, ground := Ground.phase }], guard := none }) (v := ?_) rfl (by kernel_rfl) (by kernel_rfl) (by kernel_rfl) (fun _ _ _ h => h) (Or.inl ⟨by rfl, ?_⟩) (by assumption) ?_; rotate_left; (focus (intro w hSw; (try dsimp only at hSw); go_simp; (try with_reducible rfl))); (try simp only [Act.put, List.setIfInBounds_toArray, List.set_cons_zero, List.set_cons_succ]))
              (refine wpAnyH_take (i := 8) (oi := { dst := some 47, op := Op.fieldAddr 94 (Operand.tmp 46) 3, type := 0, pos := "parts.go:294", after := #[{ on := 7, ground := Ground.data }, { on := 0, ground := Ground.phase }, { on := 1, ground := Ground.phase }, { on := 2, ground := Ground.phase }, { on := 3, ground := Ground.phase }, { on := 4, ground := Ground.phase }, { on := 5, ground := Ground.phase }, { on := 6, ground := Ground.phase }], guard := none }) (v := ?_) rfl (by kernel_rfl) (by kernel_rfl) (by kernel_rfl) (fun _ _ _ h => h) (Or.inl ⟨by rfl, ?_⟩) (by assumption) ?_; rotate_left; (focus (intro w hSw; (try dsimp only at hSw); go_simp; (try with_reducible rfl))); (try simp only [Act.put, List.setIfInBounds_toArray, List.set_cons_zero, List.set_cons_succ]))
              (refine wpAnyH_ready (rs := [9]) (by kernel_rfl) (by simp) ?_; refine AllReadyH.cons (o := { dst := none, op := Op.store 3 (Operand.tmp 47) (Operand.tmp 45), type := 0, pos := "parts.go:294", after := #[{ on := 8, ground := Ground.data }, { on := 6, ground := Ground.data }, { on := 6, ground := Ground.chain }, { on := 0, ground := Ground.phase }, { on := 1, ground := Ground.phase }, { on := 2, ground := Ground.phase }, { on := 3, ground := Ground.phase }, { on := 4, ground := Ground.phase }, { on := 5, ground := Ground.phase }, { on := 6, ground := Ground.phase }], guard := none }) rfl (fun K hK => ?_) AllReadyH.nil)
              go_simp
              refine hK.out _ _ ⟨(hF5.far (p := ⟨g2, j * 5 + 3, none⟩) (by simp only; omega) _).cell 5, (hX5.far (p := ⟨g2, j * 5 + 3, none⟩) (by simp only; omega) _).cell 3⟩ (fun hHeld => ?_)
              (clear hK K; (try simp only [Act.put, List.setIfInBounds_toArray, List.set_cons_zero, List.set_cons_succ]))
              refine wpAnyH_done (by kernel_rfl) ?_ _
              go_wp2
              go_roundw
              case rel =>
                have h5 := hB5.setR (x := x.withR (Q1 ++ r :: Q2)) (g := g2) rfl HRA.out (toP l p.er.frs r.frag)
                rw [hr1.out] at h5
                refine ⟨j + 1, by omega, by go_num, ?_, ?_, ?_⟩
                · rw [HJ.out, HRE.out]; exact h5
                · have h6 := hF5.far (p := ⟨g2, j * 5 + 3, none⟩) (by simp only; omega) (.int .i64 (toP l p.er.frs r.frag))
                  first | exact h6 | (rw [HRA.out]; exact h6)
                · exact hb5.setCell (p := ⟨g2, j * 5 + 3, none⟩) (by simp only; omega) _
              case measure => simp [intOf]; omega
            · have HRE := Lib.hid (HVN.out r hn0)
              have tn := toList_one hn0
              have tn' := toList_some hn0
              clear hn0 hro
              (go_wp2; go_roundw; (case rel => exact ⟨j + 1, by omega, by go_num, by rw [HJ.out, HRE.out]; exact hB3, hF3, hb3⟩); (case measure => simp [intOf]; omega))
          · obtain rfl : j = x.f.rs.length := by omega
            have hE : x.withR ((x.f.rs.take x.f.rs.length).map (Rel.re T) ++ x.f.rs.drop x.f.rs.length) = x.mapR (Rel.re T) := by
              rw [List.take_length, List.drop_length, List.append_nil]; rfl
            rw [hE] at hBi
            have hCM := Lib.hid (cells_mapR (Rel.re T) x)
            clear hE
            have dO := hBi.hO.cell 0
            have fO := hBi.hO.frozen 0
            have g0 := hFi.cell 0
            have g1 := hFi.cell 1
            have g2 := hFi.cell 2
            have g3 := hFi.cell 3
            have g4 := hFi.cell 4
            have g5' := hFi.cell 5
            have gOl := hBi.hO.lt
            have wlt : wo.heap.size < wr.heap.size := hFi.lt
            obtain ⟨i0, hi, hiz, his, hib⟩ := info_parts Tryd.infoFrags
            go_wp2_with (at_builtin
                         refine wpList_append_lies _ rfl (.tmp 50) (.tmp 52) 22 rfl w.heap.size 92 i0 _ 6 88 Tryd.underlying22 hi hiz his hib rfl (by decide) _ _ _ rfl (hBi.hz1.alloc _) ⟨wr.heap.size, 0, none⟩ 1 1 [.int .i64 x.f.sect, .int .i64 x.f.align, .string x.f.group, .slice x.ba x.f.bs.length x.bc, .int .i64 x.f.size, .slice x.ra x.f.rs.length x.rc] rfl rfl ?c1 ?c2 (by omega) ?c3 ?c4 ?c5 _ rfl ?_
                         case c1 => exact fun j u hu => cells_new j u hu
                         case c2 => exact fg_one x
                         case c3 => unfold maxLen; omega
                         case c4 => omega
                         case c5 => have := hbi.size; simp; omega
                         intro g5 c5 w5 hown5 hg5 hat5 hlt5
                         have hown5' : w5.ownsRow w.heap.size 92 6 (.slice (some ⟨g5, 0, none⟩) (K1.length + 1) c5) (K1.length + 1) (fgsV K1 ++ (x.mapR (Rel.re T)).cells) := by rw [hCM.out]; exact hown5
                         have hB5 := (hBi.alloc _).pushF hown5' hg5 hat5
                         have hb5 := (hBi.alloc _).belowF (.slice (some ⟨g5, 0, none⟩) (K1.length + 1) c5) (hbi.alloc hbi.size _) hg5
                         have hO5 := (hBi.alloc _).hO5 hg5
                         have dO5 := hO5.cell 0
                         have fO5 := hO5.frozen 0
                         clear hg5 hown5 hown5' hat5 g0 g1 g2 g3 g4 g5')
            go_roundw
            case rel => exact ⟨k + 1, _, K1 ++ [x.mapR (Rel.re T)], by omega, by go_num, by rw [hT.out]; exact HT, by rw [HR2.out]; exact hB5, hb5⟩
            case measure => simp [intOf]; omega
      · have HK : Hid (keptUp l qf (k + 1) = keptUp l qf k) := HU.out rfl
        clear HI HU
        go_wp2_with (go_at_call 170; refine HC.out.mono ?_; rintro e w3 ⟨rfl, hb3⟩)
        go_roundw
        case rel => exact ⟨k + 1, _, K1, by omega, by go_num, by rw [HK.out]; exact hK1, by rw [HR2.out]; exact (hA2.all hb3).skip, hb2.trans (hb3.mono hb2.size)⟩
        case measure => simp [intOf]; omega
    · obtain rfl : k = qf.length := by omega
      have hKE : K1.map FgM.f = (dropP p.er l).frs := by
        rw [dropP_frs, hK1.out, ← HQ.out]
        unfold keptUp keepF
        rw [List.take_length, List.filter_map, List.map_map, List.map_map]; rfl
      rw [List.drop_length] at hA
      have HKE := Lib.hid hKE
      have HDE : Hid (reDfs (toOf l p.er.frs) p.dfs = (dropP p.er l).dfs) := by show _ = _; rw [dropP_dfs]; rfl
      have HDO : Hid (∀ d ∈ p.dfs, d.okIn p.frs.length) := fun d hd => by
        have := hok.right.df d hd
        rwa [show p.er.frs.length = p.frs.length by simp [PtM.er]] at this
      have HV : Hid (∀ d : Df, d.kind ≠ 3 → 0 ≤ d.frag → d.re (toOf l p.er.frs) = { d with frag := toP l p.er.frs d.frag }) := fun d h1 h2 => toP_df h1 h2
      have HTG : Hid (∀ (n : Nat) x, qf[n]? = some x → (x.f.gone l = true → toP l p.er.frs n = -1) ∧ (x.f.gone l = false → 0 ≤ toP l p.er.frs n)) := fun n x hx => by
        have h2 : p.er.frs[n]? = some x.f := by rw [← HQ.out]; simp [hx]
        have h3 := toP_gone (l := l) h2
        refine ⟨fun h4 => by rw [h3, h4]; rfl, fun h4 => by rw [h3, h4]; simp⟩
      obtain ⟨T, hT⟩ : ∃ T, toOf l p.er.frs = T := ⟨_, rfl⟩
      rw [hT] at HDE HV
      clear hK1 hKE hT
      obtain ⟨j0, hj, hjz, hjs, hjb⟩ := info_parts Tryd.infoDefs
      have hd60 := HHS.out.df
      have dP := hA.hP.cell 1
      go_wp2_with fail
      clear dP
      go_loopw [59] (fun i wr => ∃ (k : Nat) (y : Value) (D : List Df), k ≤ p.dfs.length ∧ i = .int .i64 k ∧ Hid (D = reDfs T (p.dfs.take k)) ∧ RD wr w.heap.size w.heap.size gL gG gR gO #[.slice p.fa p.frs.length p.fc, .slice p.da p.dfs.length p.dc] #[.slice A l.length c] #[goneV w.heap.size gL] (.slice Az K1.length cz) y (.slice qa qf.length qc) K1 D qf [] ∧ Below w.heap.size w wr) (fun i _ => p.dfs.length - (intOf i).toNat)
      case atStart => exact ⟨0, _, [], Nat.zero_le _, rfl, Lib.hid (by simp [reDfs]), hA, hb⟩
      case round =>
        clear hA hb
        obtain ⟨k, y, D, hk, rfl, hD, hB, hb⟩ := hrel
        obtain ⟨Ay, cy, rfl, hy1, hy2⟩ := own_form hB.hy1
        have hDl : D.length ≤ 60 := by
          rw [hD.out]
          refine Nat.le_trans (List.length_filter_le ..) ?_
          rw [List.length_map, List.length_take]; omega
        have gOl := hB.hO.lt
        by_cases hlt : k < p.dfs.length
        · obtain ⟨d, hd⟩ : ∃ d, p.dfs[k]? = some d := ⟨_, List.getElem?_eq_getElem hlt⟩
          obtain ⟨b', off, hda, bl, c0, c1, c2, c3, c4, c5⟩ := df_get (HPD.out.below hb) hd
          have hdo := HDO.out d (List.mem_of_getElem? hd)
          have HD : Hid (reDfs T (p.dfs.take (k + 1)) = reDfs T (p.dfs.take k) ++ reDfs T [d]) := by show _ = _; rw [List.take_add_one, hd, reDfs_append]; rfl
          have HDA := Lib.hid hda
          clear hd
          rw [hda]
          go_upto_region 19 with (fail)
          have hB2 := hB.alloc (.cells #[.string d.name, .int .i64 d.kind, .int .i64 d.frag, .int .i64 d.at_, .int .i64 d.size, .int .i64 d.align] 31)
          have hF2 := Blk.new wr 31 #[.string d.name, .int .i64 d.kind, .int .i64 d.frag, .int .i64 d.at_, .int .i64 d.size, .int .i64 d.align]
          have hb2 := hb.alloc hb.size (.cells #[.string d.name, .int .i64 d.kind, .int .i64 d.frag, .int .i64 d.at_, .int .i64 d.size, .int .i64 d.align] 31)
          have gd : wr.heap.size < (wr.alloc (.cells #[.string d.name, .int .i64 d.kind, .int .i64 d.frag, .int .i64 d.at_, .int .i64 d.size, .int .i64 d.align] 31)).heap.size := by simp
          have hyn : (Value.slice Ay D.length cy).ownBlock ≠ some wr.heap.size := fun e => by have := (hB.hy1.lt _ e).2; omega
          have bsz := hb.size
          obtain ⟨W2, hW2⟩ : ∃ W, W = wr.alloc (.cells #[.string d.name, .int .i64 d.kind, .int .i64 d.frag, .int .i64 d.at_, .int .i64 d.size, .int .i64 d.align] 31) := ⟨_, rfl⟩
          rw [← hW2] at hB2 hF2 hb2 gd ⊢
          clear hW2 hB hb c0 c1 c2 c3 c4 c5 bl
          have f1 := hF2.cell 1
          by_cases hk3 : d.kind = 3
          · have kf : (d.kind != 3) = false := by simp [hk3]
            have hf0 := hdo.1 hk3
            have HQ2 : Hid (reDfs T [d] = [{ d with frag := d.frag }]) := by
              have : d.re T = d := Df.re_common T hk3
              have h2 : 0 ≤ (d.re T).frag := by rw [this]; omega
              show reDfs T [d] = _
              rw [reDfs_cons_in h2, this]; rfl
            clear hdo hf0 hk3
            have hB3 := hB2
            have hF3 := hF2
            have hb3 := hb2
            have gd3 := gd
            clear hB2 hF2 hb2 gd hyn f1
            obtain ⟨W3, hW3⟩ : ∃ W, W = W2 := ⟨_, rfl⟩
            rw [← hW3] at hB3 hF3 hb3 gd3 ⊢
            clear hW3
            have dO := hB3.hO.cell 1
            have fO := hB3.hO.frozen 1
            have g0 := hF3.cell 0
            have g1 := hF3.cell 1
            have g2 := hF3.cell 2
            have g3 := hF3.cell 3
            have g4 := hF3.cell 4
            have g5' := hF3.cell 5
            have b3 := hb3.size
            have gOl := hB3.hO.lt
            have f1 := hF3.cell 1
            (go_wp2_with (at_builtin; refine wpList_append_lies _ rfl (.tmp 76) (.tmp 78) 23 rfl w.heap.size 31 j0 _ 6 56 Tryd.underlying23 hj hjz hjs hjb rfl (by decide) _ _ _ rfl (hB3.hy1.alloc _) ⟨W3.heap.size, 0, none⟩ 1 1 [.string d.name, .int .i64 d.kind, .int .i64 d.frag, .int .i64 d.at_, .int .i64 d.size, .int .i64 d.align] rfl rfl ?c1 ?c2 (by omega) ?c3 ?c4 ?c5 _ rfl ?_; (case c1 => exact fun j u hu => cells_new j u hu); (case c2 => exact df_one { d with frag := d.frag }); (case c3 => unfold maxLen; omega); (case c4 => omega); (case c5 => simp; omega); intro g5 c5 w5 hown5 hg5 hat5 hlt5; have hB5 := (hB3.alloc _).pushD (d := { d with frag := d.frag }) hown5 hg5; have hb5 := (hB3.alloc _).belowD (.slice (some ⟨g5, 0, none⟩) (D.length + 1) c5) (hb3.alloc hb3.size _) hg5; have hO5 := (hB3.alloc _).hO6 hg5; have dO5 := hO5.cell 1; have fO5 := hO5.frozen 1; clear hg5 hown5 hat5 g0 g1 g2 g3 g4 g5'); go_roundw; (case rel => exact ⟨k + 1, _, D ++ [{ d with frag := d.frag }], by omega, by go_num, Lib.hid (by rw [HD.out, hD.out, HQ2.out]), by first | exact hB5 | (rw [HDA.out] at hB5; exact hB5), hb5⟩); (case measure => simp [intOf]; omega))
          · have kf : (d.kind != 3) = true := by simpa using hk3
            obtain ⟨hf0, hf1⟩ := hdo.2 hk3
            obtain ⟨n, hn'⟩ : ∃ n : Nat, d.frag = n := ⟨d.frag.toNat, by omega⟩
            have hnq : n < qf.length := by rw [← HLN.out]; omega
            have hnp : (n : Int) < p.frs.length := by rw [← hn']; exact hf1
            obtain ⟨x, hx⟩ : ∃ x, qf[n]? = some x := ⟨_, List.getElem?_eq_getElem hnq⟩
            have HRE : Hid (d.re T = { d with frag := toP l p.er.frs n }) := by show _ = _; rw [HV.out d hk3 hf0, hn']
            have HC := HGO.out n x W2 hx hb2 hB2.hP hB2.hL
            obtain ⟨ht1, ht2⟩ := HTG.out n x hx
            have f2 := hF2.cell 2
            rw [hn'] at f2
            have dG := hB2.hG.cell 0
            unfold goneV at dG
            obtain ⟨bg, hbg⟩ : ∃ bg, x.f.gone l = bg := ⟨_, rfl⟩
            rw [hbg] at HC ht1 ht2
            clear hbg hx hk3 hdo
            replace hn' := Lib.hid hn'
            replace HC := Lib.hid HC
            rcases bg with _ | _
            · have ht0 := ht2 rfl
              have HQ2 : Hid (reDfs T [d] = [{ d with frag := toP l p.er.frs n }]) := by
                have h2 : 0 ≤ (d.re T).frag := by rw [HRE.out]; exact ht0
                show reDfs T [d] = _
                rw [reDfs_cons_in h2, HRE.out]; rfl
              have HCT := fun W => HTO.out (n : Int) W hnp
              obtain ⟨v, hv⟩ : ∃ v, toP l p.er.frs n = v := ⟨_, rfl⟩
              rw [hv] at HQ2 ht0 HRE
              simp only [hv] at HCT
              replace HCT := Lib.hid HCT
              clear hv ht1 ht2 hf0 hf1
              go_upto_region 21 with (go_at_call 170; refine HC.out.mono ?_; rintro e w3 ⟨rfl, hb3⟩)
              have hB3 := hB2.all hb3
              have hF3 := hF2.all hb3
              have hb3' := hb2.trans (hb3.mono hb2.size)
              have gd3 := Nat.lt_of_lt_of_le gd hb3.size
              clear hB2 hF2 hb2 gd hb3 dG f1 f2
              have f2 := hF3.cell 2
              rw [hn'.out] at f2
              go_wp2_with fail
              refine (HCT.out w3 hb3' hB3.hP hB3.hL hB3.hG).mono ?_
              rintro e w4 ⟨rfl, hb4⟩
              have hB4 := hB3.all hb4
              have hF4 := hF3.all hb4
              have hb4' := hb3'.trans (hb4.mono hb3'.size)
              have gd4 := Nat.lt_of_lt_of_le gd3 hb4.size
              clear hB3 hF3 hb3' gd3 hb4 f2
              have f2 := hF4.cell 2
              have f2f := hF4.frozen 2
              rw [hn'.out] at f2
              go_upto_region 22 with (fail)
              have hF3 : Blk (w4.setCell ⟨wr.heap.size, 2, none⟩ (.int .i64 v)) wr.heap.size 31 #[.string d.name, .int .i64 d.kind, .int .i64 v, .int .i64 d.at_, .int .i64 d.size, .int .i64 d.align] := hF4.set_ 2 (.int .i64 v)
              have hB3 := hB4.box (j := 2) hF4 hyn (.int .i64 v)
              have hb3 := hb4'.setCell (p := ⟨wr.heap.size, 2, none⟩) (by simp only; omega) (.int .i64 v)
              have gd3 : wr.heap.size < (w4.setCell ⟨wr.heap.size, 2, none⟩ (.int .i64 v)).heap.size := by simpa [World.setCell] using gd4
              obtain ⟨W3, hW3⟩ : ∃ W, W = w4.setCell ⟨wr.heap.size, 2, none⟩ (.int .i64 v) := ⟨_, rfl⟩
              rw [← hW3] at hB3 hF3 hb3 gd3 ⊢
              clear hW3 hB4 hF4 hb4' gd4 f2 f2f hyn
              have dO := hB3.hO.cell 1
              have fO := hB3.hO.frozen 1
              have g0 := hF3.cell 0
              have g1 := hF3.cell 1
              have g2 := hF3.cell 2
              have g3 := hF3.cell 3
              have g4 := hF3.cell 4
              have g5' := hF3.cell 5
              have b3 := hb3.size
              have gOl := hB3.hO.lt
              (go_wp2_with (at_builtin; refine wpList_append_lies _ rfl (.tmp 76) (.tmp 78) 23 rfl w.heap.size 31 j0 _ 6 56 Tryd.underlying23 hj hjz hjs hjb rfl (by decide) _ _ _ rfl (hB3.hy1.alloc _) ⟨W3.heap.size, 0, none⟩ 1 1 [.string d.name, .int .i64 d.kind, .int .i64 v, .int .i64 d.at_, .int .i64 d.size, .int .i64 d.align] rfl rfl ?c1 ?c2 (by omega) ?c3 ?c4 ?c5 _ rfl ?_; (case c1 => exact fun j u hu => cells_new j u hu); (case c2 => exact df_one { d with frag := v }); (case c3 => unfold maxLen; omega); (case c4 => omega); (case c5 => simp; omega); intro g5 c5 w5 hown5 hg5 hat5 hlt5; have hB5 := (hB3.alloc _).pushD (d := { d with frag := v }) hown5 hg5; have hb5 := (hB3.alloc _).belowD (.slice (some ⟨g5, 0, none⟩) (D.length + 1) c5) (hb3.alloc hb3.size _) hg5; have hO5 := (hB3.alloc _).hO6 hg5; have dO5 := hO5.cell 1; have fO5 := hO5.frozen 1; clear hg5 hown5 hat5 g0 g1 g2 g3 g4 g5'); go_roundw; (case rel => exact ⟨k + 1, _, D ++ [{ d with frag := v }], by omega, by go_num, Lib.hid (by rw [HD.out, hD.out, HQ2.out]), by first | exact hB5 | (rw [HDA.out] at hB5; exact hB5), hb5⟩); (case measure => simp [intOf]; omega))
            · have ht0 := ht1 rfl
              have HQ2 : Hid (reDfs T [d] = []) := by
                have h2 : (d.re T).frag < 0 := by rw [HRE.out]; show toP l p.er.frs n < 0; omega
                show reDfs T [d] = _
                rw [reDfs_cons_out h2]; rfl
              clear ht0 ht1 ht2 hf0 hf1
              go_wp2_with (go_at_call 170; refine HC.out.mono ?_; rintro e w3 ⟨rfl, hb3⟩)
              go_roundw
              case rel =>
                have hB5 := hB2.all hb3
                exact ⟨k + 1, _, D, by omega, by go_num, Lib.hid (by rw [HD.out, hD.out, HQ2.out, List.append_nil]), by first | exact hB5 | (rw [HDA.out] at hB5; exact hB5), hb2.trans (hb3.mono hb2.size)⟩
              case measure => simp [intOf]; omega
        · obtain rfl : k = p.dfs.length := by omega
          have r0 := hB.hO.cell 0
          have r1 := hB.hO.cell 1
          have q0 := hB.hR.cell 0
          have q1 := hB.hR.cell 1
          have q2 := hB.hR.frozen 0
          have q3 := hB.hR.frozen 1
          have hn3' := hB.n3
          have gRb : w.heap.size ≤ gR := by rw [hgR.out]; omega
          have hD' : Hid (D = (dropP p.er l).dfs) := by
            have := hD.out
            rw [List.take_length] at this
            exact this.trans HDE.out
          have hw5 : Below w.heap.size w ((wr.setCell ⟨gR, 0, none⟩ (.slice Az K1.length cz)).setCell ⟨gR, 1, none⟩ (.slice Ay D.length cy)) := (hb.setCell (by simp only; omega) _).setCell (by simp only; omega) _
          have n1 := own_blk_ne hB.hz1 hB.hR (by decide)
          have n2 := own_blk_ne hB.hy1 hB.hR (by decide)
          have hO5 := own_setCell (own_setCell hB.hz1 n1 (.slice Az K1.length cz) (p := ⟨gR, 0, none⟩)) n1 (.slice Ay D.length cy) (p := ⟨gR, 1, none⟩)
          have hD5 := own_setCell (own_setCell hB.hy1 n2 (.slice Az K1.length cz) (p := ⟨gR, 0, none⟩)) n2 (.slice Ay D.length cy) (p := ⟨gR, 1, none⟩)
          have hE5 : ∀ x ∈ K1, x.Own ((wr.setCell ⟨gR, 0, none⟩ (.slice Az K1.length cz)).setCell ⟨gR, 1, none⟩ (.slice Ay D.length cy)) w.heap.size := fun x hx => ((hB.each x (by simpa using hx)).blk hB.hR (by decide) (by decide) _).blk (hB.hR.set_ 0 _) (by decide) (by decide) _
          have hA5 : ApartR K1 := by simpa using hB.apart
          have HR5 : Hid (PtM.Own ((wr.setCell ⟨gR, 0, none⟩ (.slice Az K1.length cz)).setCell ⟨gR, 1, none⟩ (.slice Ay D.length cy)) w.heap.size ⟨K1, D, Az, cz, Ay, cy⟩ ∧ PtM.er ⟨K1, D, Az, cz, Ay, cy⟩ = dropP p.er l) := by
            refine ⟨⟨hO5, hD5, hE5, hA5⟩, ?_⟩
            show Prt.mk (K1.map FgM.f) D = dropP p.er l
            rw [HKE.out, hD'.out]
          clear hO5 hD5 hE5 hA5 n1 n2 hB
          go_wp2
          refine bodyPost_ret (v := .agg #[.slice Az K1.length cz, .slice Ay D.length cy]) (by simp [results, Tryd.results132, go_sem, q0, q1]) rfl ⟨⟨K1, D, Az, cz, Ay, cy⟩, rfl, HR5.out.1, HR5.out.2, hw5⟩
end Go.Proofs.YtokiekachlmigaaDoor
