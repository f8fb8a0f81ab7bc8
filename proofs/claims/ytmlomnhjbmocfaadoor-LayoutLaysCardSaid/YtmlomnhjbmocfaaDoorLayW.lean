/- layout.Lay: what it computes. -/
import Derived.Test.YtmlomnhjbmocfaaDoorLayC
import Derived.Test.YtmlomnhjbmocfaaDoorLayF
import Derived.Test.YtmlomnhjbmocfaaDoorB1
import Derived.Maps.OwnOps
import Derived.Maps.OwnSet
set_option linter.all false
namespace Go.Proofs.YtmlomnhjbmocfaaDoor
open Go.RowKit Go.Maps

/-- Where a section ends, the common names counted in. -/
def toN (p : Prt) (base s : Nat) : Nat := if s = 5 then (layEnd p base).at_ else secEnd p.frs base s
theorem toN_other (p : Prt) (base : Nat) {s : Nat} (h : s ≠ 5) : toN p base s = secEnd p.frs base s := if_neg h
theorem toN_five (p : Prt) (base : Nat) : toN p base 5 = (layEnd p base).at_ := if_pos rfl
theorem secEnd_le {fs : List Frg} (hl : Lays fs) (base : Nat) : ∀ s, secEnd fs base s ≤ base + 4336 * s
  | 0 => by simp [secEnd]
  | s + 1 => by
    have h1 := secEnd_le hl base s
    have h2 := (secEnd_next hl base s).2.2.2
    rw [Nat.mul_succ, ← Nat.add_assoc]
    exact Nat.le_trans h2 (Nat.add_le_add_right h1 _)
theorem posAt_le {fs : List Frg} (hl : Lays fs) {base s : Nat} (hs : 1 ≤ s) (hs5 : s ≤ 5) {k : Nat} (hk : k ≤ fs.length) (hb : base < 65536) : posAt fs s (secFrom fs base s) k ≤ 200000 := by
  have h1 := posAt_far hl s (secFrom fs base s) k
  have h2 := secEnd_le hl base (s - 1)
  have h3 := upN_lt (secEnd fs base (s - 1)) 16 (by omega)
  have h4 := hl.n
  have e : secFrom fs base s = upN (secEnd fs base (s - 1)) 16 := rfl
  omega
theorem secEnd_pos (fs : List Frg) (base : Nat) {s : Nat} (hs : 1 ≤ s) : secEnd fs base s = posAt fs s (secFrom fs base s) fs.length := by
  obtain ⟨t, rfl⟩ : ∃ t, s = t + 1 := ⟨s - 1, by omega⟩
  show posAt fs ((t : Int) + 1) _ _ = _
  rw [show ((t : Int) + 1) = ((t + 1 : Nat) : Int) by omega]
  rfl
def natsV (l : List Nat) : List Value := intsV (l.map Int.ofNat)
/-- A layout, and where its rows lie. -/
structure LyM where
  r : LayR
  fa : Option Addr
  fc : Nat
  na : Option Addr
  nc : Nat
  ca : Option Addr
  cc : Nat
def LyM.cells (l : LyM) : List Value := lcells (.slice l.fa l.r.fr.length l.fc) (.slice l.na l.r.ns.length l.nc) (.slice l.ca l.r.cs.length l.cc) (0 :: l.r.frm.map Int.ofNat) (0 :: l.r.to_.map Int.ofNat)
structure LyM.At (w : World) (B : Nat) (l : LyM) : Prop where
  fr : Reads w B 1 l.fa l.r.fr.length (natsV l.r.fr)
  ns : Reads w B 1 l.na l.r.ns.length (strsV l.r.ns)
  cs : Reads w B 1 l.ca l.r.cs.length (natsV l.r.cs)
theorem LyM.At.keep {w w' : World} {B B' : Nat} {l : LyM} (h : l.At w B) (hb : Below B w w') (hB : B ≤ B') : l.At w' B' := ⟨(h.fr.below hb).more hB, (h.ns.below hb).more hB, (h.cs.below hb).more hB⟩
def LayIs (w : World) (p : Prt) (base : Int) (e : Ending) (w' : World) : Prop :=
  ∃ l : LyM, e = .returned (.tuple #[.agg l.cells.toArray, .int .i64 (layE p base)]) ∧ l.r = layR p base ∧ l.At w' w'.heap.size ∧ Below w.heap.size w w'
/-- Fifteen cells, one after the other. -/
def put15 (w : World) (g : Nat) (v0 v1 v2 v3 v4 v5 v6 v7 v8 v9 v10 v11 v12 v13 v14 : Value) : World := (((((((((((((((w.setCell ⟨g, 0, none⟩ v0).setCell ⟨g, 1, none⟩ v1).setCell ⟨g, 2, none⟩ v2).setCell ⟨g, 3, none⟩ v3).setCell ⟨g, 4, none⟩ v4).setCell ⟨g, 5, none⟩ v5).setCell ⟨g, 6, none⟩ v6).setCell ⟨g, 7, none⟩ v7).setCell ⟨g, 8, none⟩ v8).setCell ⟨g, 9, none⟩ v9).setCell ⟨g, 10, none⟩ v10).setCell ⟨g, 11, none⟩ v11).setCell ⟨g, 12, none⟩ v12).setCell ⟨g, 13, none⟩ v13).setCell ⟨g, 14, none⟩ v14)
section
variable {w w0 : World} {g B : Nat} {t : TypeId} {c0 c1 c2 c3 c4 c5 c6 c7 c8 c9 c10 c11 c12 c13 c14 : Value} (v0 v1 v2 v3 v4 v5 v6 v7 v8 v9 v10 v11 v12 v13 v14 : Value)
theorem put15_blk (h : Blk w g t #[c0, c1, c2, c3, c4, c5, c6, c7, c8, c9, c10, c11, c12, c13, c14]) : Blk (put15 w g v0 v1 v2 v3 v4 v5 v6 v7 v8 v9 v10 v11 v12 v13 v14) g t #[v0, v1, v2, v3, v4, v5, v6, v7, v8, v9, v10, v11, v12, v13, v14] := by
  have h' := (((((((((((((((h.set_ 0 v0).set_ 1 v1).set_ 2 v2).set_ 3 v3).set_ 4 v4).set_ 5 v5).set_ 6 v6).set_ 7 v7).set_ 8 v8).set_ 9 v9).set_ 10 v10).set_ 11 v11).set_ 12 v12).set_ 13 v13).set_ 14 v14)
  simp only [List.setIfInBounds_toArray, List.set_cons_zero, List.set_cons_succ] at h'
  exact h'
theorem put15_below (h : Below B w0 w) (hg : B ≤ g) : Below B w0 (put15 w g v0 v1 v2 v3 v4 v5 v6 v7 v8 v9 v10 v11 v12 v13 v14) := (((((((((((((((h.setCell hg v0).setCell hg v1).setCell hg v2).setCell hg v3).setCell hg v4).setCell hg v5).setCell hg v6).setCell hg v7).setCell hg v8).setCell hg v9).setCell hg v10).setCell hg v11).setCell hg v12).setCell hg v13).setCell hg v14)
theorem put15_grown (w : World) (g : Nat) : w.grownBy (put15 w g v0 v1 v2 v3 v4 v5 v6 v7 v8 v9 v10 v11 v12 v13 v14) (some g) := (gro_set (gro_set (gro_set (gro_set (gro_set (gro_set (gro_set (gro_set (gro_set (gro_set (gro_set (gro_set (gro_set (gro_set (gro_set (World.grownBy.refl _ _) v0) v1) v2) v3) v4) v5) v6) v7) v8) v9) v10) v11) v12) v13) v14)
theorem put15_size : (put15 w g v0 v1 v2 v3 v4 v5 v6 v7 v8 v9 v10 v11 v12 v13 v14).heap.size = w.heap.size := by unfold put15; simp [World.setCell]
end
/-- A table of texts. -/
abbrev TexIs (w : World) (gM k : Nat) (D : DataW Unit) : Prop := w.ownsMap Tryd.prog 9 (plainElem Tryd.prog 3) gM k D
theorem keyed_str : Keyed Tryd.prog 9 := string_keyed Tryd.underlying9
theorem zero_intL (w : World) : (zeroValue 3).run Tryd.prog w = .ok (.int .i64 0) w := by kernel_rfl
theorem lcells_get3 {v1 v2 v3 : Value} {fr to_ : List Int} {j : Nat} {n : Int} (h : fr[j]? = some n) : (lcells v1 v2 v3 fr to_).toArray[3 + j]? = some (.int .i64 n) := by
  have hj := (List.getElem?_eq_some_iff.1 h).1
  rw [List.getElem?_toArray]
  unfold lcells
  rw [Nat.add_comm 3 j, List.getElem?_cons_succ, List.getElem?_cons_succ, List.getElem?_cons_succ, List.getElem?_append_left (by simpa [intsV] using hj)]
  simp [intsV, h, intV]
theorem lcells_get9 {v1 v2 v3 : Value} {fr to_ : List Int} {j : Nat} {n : Int} (hf : fr.length = 6) (h : to_[j]? = some n) : (lcells v1 v2 v3 fr to_).toArray[9 + j]? = some (.int .i64 n) := by
  rw [List.getElem?_toArray]
  unfold lcells
  have hl : (intsV fr).length = 6 := by simpa [intsV] using hf
  rw [show 9 + j = 6 + j + 3 by omega, List.getElem?_cons_succ, List.getElem?_cons_succ, List.getElem?_cons_succ, List.getElem?_append_right (by omega), hl, Nat.add_sub_cancel_left]
  simp [intsV, h, intV]
theorem sixAt_get (g : Nat → Nat) {s : Nat} (h1 : 1 ≤ s) (h5 : s ≤ 5) : (sixAt g (s - 1))[s]? = some 0 := by
  unfold sixAt
  rw [List.getElem?_map, List.getElem?_range (by omega)]
  simp only [Option.map_some]
  rw [if_neg (by omega)]
theorem sixAt_put (g : Nat → Nat) {s : Nat} (h1 : 1 ≤ s) (h5 : s ≤ 5) : (sixAt g (s - 1)).set s (g s : Int) = sixAt g s := by
  obtain ⟨t, rfl⟩ : ∃ t, s = t + 1 := ⟨s - 1, by omega⟩
  rw [Nat.add_sub_cancel]
  exact sixAt_set g (by omega)
/-- What lies there inside section s, after k fragments. -/
structure LayIn (w1 w' : World) (p : Prt) (base gO gM s k : Nat) (D : DataW Unit) : Prop where
  o : Blk w' gO 30 (lcells (.slice (some ⟨w1.heap.size, 0, none⟩) p.frs.length p.frs.length) (.slice none 0 0) (.slice none 0 0) (sixAt (secFrom p.frs base) s) (sixAt (toN p base) (s - 1))).toArray
  f : Blk w' w1.heap.size 3 (intsV (frAt p.frs base s k)).toArray
  m : TexIs w' gM k D
  t : Tex p.frs base s k D
  be : Below w1.heap.size w1 w'
  sz : gO < w'.heap.size
section
variable {w1 w w' : World} {p : Prt} {base gO gM s k : Nat} {D : DataW Unit}
theorem LayIn.alloc (h : LayIn w1 w p base gO gM s k D) (o : Obj) : LayIn w1 (w.alloc o) p base gO gM s k D :=
  ⟨h.o.alloc _, h.f.alloc _, h.m.alloc _, h.t, h.be.alloc (by have := h.be.size; omega) _, by have := h.sz; simp; omega⟩
theorem LayIn.all (h : LayIn w1 w p base gO gM s k D) (hb : Below w.heap.size w w') : LayIn w1 w' p base gO gM s k D :=
  ⟨h.o.all hb, h.f.all hb, h.m.kept (only_of_below hb none) (by simp), h.t, h.be.trans (hb.mono h.be.size), by have := h.sz; have := hb.size; omega⟩
theorem LayIn.skip (h : LayIn w1 w p base gO gM s k D) {f : Frg} (hf : p.frs[k]? = some f) (hs : f.sect ≠ s) : LayIn w1 w p base gO gM s (k + 1) D :=
  ⟨h.o, by rw [← frAt_skip hf hs]; exact h.f, h.m.mono (by omega), h.t.skip hf hs, h.be, h.sz⟩
theorem LayIn.setF (h : LayIn w1 w p base gO gM s k D) (i : Nat) (u : Value) (hne : w1.heap.size ≠ gO) : Blk (w.setCell ⟨w1.heap.size, i, none⟩ u) gO 30 (lcells (.slice (some ⟨w1.heap.size, 0, none⟩) p.frs.length p.frs.length) (.slice none 0 0) (.slice none 0 0) (sixAt (secFrom p.frs base) s) (sixAt (toN p base) (s - 1))).toArray ∧
    Blk (w.setCell ⟨w1.heap.size, i, none⟩ u) w1.heap.size 3 ((intsV (frAt p.frs base s k)).toArray.setIfInBounds i u) ∧ Below w1.heap.size w1 (w.setCell ⟨w1.heap.size, i, none⟩ u) ∧ gO < (w.setCell ⟨w1.heap.size, i, none⟩ u).heap.size :=
  ⟨h.o.far (fun e => hne e.symm) u, h.f.set_ i u, h.be.setCell (Nat.le_refl _) u, by simpa [World.setCell] using h.sz⟩
end
theorem key_conv {f : Frg} {w : World} {B c : Nat} {A : Option Addr} (h : Reads w B 1 A f.bs.length (bytesV f.bs)) :
    (convert 60 9 (.slice A f.bs.length c)).run Tryd.prog w = .ok (.string ⟨f.bs.toArray⟩) w :=
  conv_reads h c Tryd.underlying60 Tryd.underlying5 Tryd.underlying9
theorem one_conv {f : Frg} (h0 : 0 ≤ f.align) (h8 : f.align ≤ 8) (w : World) :
    (convert 60 9 (.slice (some ⟨w.heap.size, 0, none⟩) 1 1)).run Tryd.prog (w.alloc (.cells #[.int .u8 f.align] 5)) = .ok (.string ⟨#[UInt8.ofNat f.align.toNat]⟩) (w.alloc (.cells #[.int .u8 f.align] 5)) := by
  have h := (Blk.new w 5 #[.int .u8 f.align]).reads (size := 1) (n := 1) rfl
  have e : (#[.int .u8 f.align] : Array Value).toList = bytesV [UInt8.ofNat f.align.toNat] := by
    simp only [bytesV, List.map_cons, List.map_nil, byteV]
    have : ((UInt8.ofNat f.align.toNat).toNat : Int) = f.align := by
      rw [UInt8.toNat_ofNat_of_lt' (by show _ < 256; omega)]; omega
    rw [this]
  rw [e] at h
  exact conv_reads (l := [UInt8.ofNat f.align.toNat]) h 1 Tryd.underlying60 Tryd.underlying5 Tryd.underlying9
theorem key_val (f : Frg) (hb : f.bs.length ≤ 64) : Go.keyOf Tryd.prog 9 (.string f.key) = some (strLit f.key) := Go.WideMaps.keyOf_string_mk Tryd.underlying9 (by
  unfold maxLen Frg.key
  have : (⟨f.bs.toArray⟩ ++ ⟨#[UInt8.ofNat f.align.toNat]⟩ : ByteArray).size = f.bs.length + 1 := by
    show (⟨f.bs.toArray⟩ ++ ⟨#[UInt8.ofNat f.align.toNat]⟩ : ByteArray).data.size = _
    rw [ByteArray.data_append]
    simp
  omega)
/-- What lies there ahead of section s. -/
structure LayAt (w1 w' : World) (p : Prt) (base gO s : Nat) (v2 v3 : Value) : Prop where
  o : Blk w' gO 30 (lcells (.slice (some ⟨w1.heap.size, 0, none⟩) p.frs.length p.frs.length) v2 v3 (sixAt (secFrom p.frs base) (s - 1)) (sixAt (toN p base) (s - 1))).toArray
  f : Blk w' w1.heap.size 3 (intsV (frAt p.frs base s 0)).toArray
  nil_ : s ≤ 5 → v2 = .slice none 0 0 ∧ v3 = .slice none 0 0
  ns : s = 6 → w'.ownsRow w1.heap.size 9 1 v2 (layEnd p base).ns.length (strsV (layEnd p base).ns)
  cs : s = 6 → w'.ownsRow w1.heap.size 3 1 v3 (layEnd p base).cs.length (intsV ((layEnd p base).cs.map Int.ofNat))
  be : Below w1.heap.size w1 w'
  sz : gO < w'.heap.size

set_option maxHeartbeats 20000000 in
set_option maxRecDepth 100000 in
theorem lay_ok (p : PtM) (base : Nat) (w : World) (h : p.At w w.heap.size) (hc : ckPart p.er = 0) (hbase : base < 65536) :
    Calls Tryd.prog 7 #[.agg #[.slice p.fa p.frs.length p.fc, .slice p.da p.dfs.length p.dc], .int .i64 base] w (LayIs w p.er base) := by
  have hs := small_of hc
  have hn := hs.fr
  have hmk := make_to p.frs.length (by omega)
  have HC := Lib.hid hc
  unfold LayIs
  have hb0 : Below w.heap.size w ((w.alloc (.cells #[.slice (p).fa (p).frs.length (p).fc, .slice (p).da (p).dfs.length (p).dc] 25)).alloc (.cells #[.slice none 0 0, .slice none 0 0, .slice none 0 0, .int .i64 0, .int .i64 0, .int .i64 0, .int .i64 0, .int .i64 0, .int .i64 0, .int .i64 0, .int .i64 0, .int .i64 0, .int .i64 0, .int .i64 0, .int .i64 0] 30)) := by (repeat' (first | exact Below.refl _ _ | assumption | refine Below.setCell ?_ (by first | omega | exact Below.size (by assumption) | (simp; done) | (simp; omega)) _ | refine Below.alloc ?_ (by first | omega | exact Below.size (by assumption) | (simp; done) | (simp; omega)) _ | refine Below.drew ?_ | refine below_drewN ?_ _))
  have hP : Blk ((w.alloc (.cells #[.slice (p).fa (p).frs.length (p).fc, .slice (p).da (p).dfs.length (p).dc] 25)).alloc (.cells #[.slice none 0 0, .slice none 0 0, .slice none 0 0, .int .i64 0, .int .i64 0, .int .i64 0, .int .i64 0, .int .i64 0, .int .i64 0, .int .i64 0, .int .i64 0, .int .i64 0, .int .i64 0, .int .i64 0, .int .i64 0] 30)) w.heap.size 25 #[.slice p.fa p.frs.length p.fc, .slice p.da p.dfs.length p.dc] := (Blk.new' _ _ _ rfl).alloc _
  have hR : Blk ((w.alloc (.cells #[.slice (p).fa (p).frs.length (p).fc, .slice (p).da (p).dfs.length (p).dc] 25)).alloc (.cells #[.slice none 0 0, .slice none 0 0, .slice none 0 0, .int .i64 0, .int .i64 0, .int .i64 0, .int .i64 0, .int .i64 0, .int .i64 0, .int .i64 0, .int .i64 0, .int .i64 0, .int .i64 0, .int .i64 0, .int .i64 0] 30)) (w.heap.size + 1) 30 (lcells (.slice none 0 0) (.slice none 0 0) (.slice none 0 0) [0, 0, 0, 0, 0, 0] [0, 0, 0, 0, 0, 0]).toArray := Blk.new' _ _ _ (by simp)
  have h1 := h.all hb0
  have hmm := @run_makeMap Tryd.prog
  go_enter Tryd.func7, Tryd.ntmps7
  go_wp2_with fail
  obtain ⟨W0, hW0⟩ : ∃ W, W = ((w.alloc (.cells #[.slice (p).fa (p).frs.length (p).fc, .slice (p).da (p).dfs.length (p).dc] 25)).alloc (.cells #[.slice none 0 0, .slice none 0 0, .slice none 0 0, .int .i64 0, .int .i64 0, .int .i64 0, .int .i64 0, .int .i64 0, .int .i64 0, .int .i64 0, .int .i64 0, .int .i64 0, .int .i64 0, .int .i64 0, .int .i64 0] 30)) := ⟨_, rfl⟩
  have hz0 : W0.heap.size = w.heap.size + 2 := by rw [hW0]; simp
  rw [← hW0] at hP hR hb0 h1 ⊢
  clear hW0
  obtain ⟨gR, hgR⟩ : ∃ g, g = w.heap.size + 1 := ⟨_, rfl⟩
  rw [← hgR] at hR ⊢
  refine (check_any p _ h1).mono ?_
  rintro e w1 ⟨rfl, hb1⟩
  rw [HC.out]
  have kP := hP.all hb1
  have kR := hR.all hb1
  have hA := h1.all hb1
  have hb := hb0.trans (hb1.mono (by omega))
  have hz1 := hb1.size
  have p0 := kP.cell 0
  have q1 : decide ((base : Int) < 0) = false := decide_eq_false (by omega)
  have q2 : decide ((65536 : Int) ≤ (base : Int)) = false := decide_eq_false (by omega)
  have HB := Lib.hid hbase
  have hgR1 : w.heap.size ≤ gR := by omega
  clear hc hP hR h1 h hb0 hb1 hgR hbase
  go_wp2_with fail
  have hF := (Blk.new w1 3 (intsV (List.replicate p.frs.length 0)).toArray).alloc (Obj.cells #[.slice (some ⟨w1.heap.size, 0, none⟩) p.frs.length p.frs.length, .slice none 0 0, .slice none 0 0, .int .i64 0, .int .i64 0, .int .i64 0, .int .i64 0, .int .i64 0, .int .i64 0, .int .i64 0, .int .i64 0, .int .i64 0, .int .i64 0, .int .i64 0, .int .i64 0] 30)
  have hO := Blk.new' (w1.alloc (.cells (intsV (List.replicate p.frs.length 0)).toArray 3)) 30 (lcells (.slice (some ⟨w1.heap.size, 0, none⟩) p.frs.length p.frs.length) (.slice none 0 0) (.slice none 0 0) [0, 0, 0, 0, 0, 0] [0, 0, 0, 0, 0, 0]).toArray (g := w1.heap.size + 1) (by simp)
  have kP0 := (kP.alloc (.cells (intsV (List.replicate p.frs.length 0)).toArray 3)).alloc (Obj.cells #[.slice (some ⟨w1.heap.size, 0, none⟩) p.frs.length p.frs.length, .slice none 0 0, .slice none 0 0, .int .i64 0, .int .i64 0, .int .i64 0, .int .i64 0, .int .i64 0, .int .i64 0, .int .i64 0, .int .i64 0, .int .i64 0, .int .i64 0, .int .i64 0, .int .i64 0] 30)
  have kR0 := (kR.alloc (.cells (intsV (List.replicate p.frs.length 0)).toArray 3)).alloc (Obj.cells #[.slice (some ⟨w1.heap.size, 0, none⟩) p.frs.length p.frs.length, .slice none 0 0, .slice none 0 0, .int .i64 0, .int .i64 0, .int .i64 0, .int .i64 0, .int .i64 0, .int .i64 0, .int .i64 0, .int .i64 0, .int .i64 0, .int .i64 0, .int .i64 0, .int .i64 0] 30)
  have hb2 : Below w.heap.size w ((w1.alloc (.cells (intsV (List.replicate p.frs.length 0)).toArray 3)).alloc (Obj.cells #[.slice (some ⟨w1.heap.size, 0, none⟩) p.frs.length p.frs.length, .slice none 0 0, .slice none 0 0, .int .i64 0, .int .i64 0, .int .i64 0, .int .i64 0, .int .i64 0, .int .i64 0, .int .i64 0, .int .i64 0, .int .i64 0, .int .i64 0, .int .i64 0, .int .i64 0] 30)) := by (repeat' (first | exact Below.refl _ _ | assumption | refine Below.setCell ?_ (by first | omega | exact Below.size (by assumption) | (simp; done) | (simp; omega)) _ | refine Below.alloc ?_ (by first | omega | exact Below.size (by assumption) | (simp; done) | (simp; omega)) _ | refine Below.drew ?_ | refine below_drewN ?_ _))
  have hA2 : p.At ((w1.alloc (.cells (intsV (List.replicate p.frs.length 0)).toArray 3)).alloc (Obj.cells #[.slice (some ⟨w1.heap.size, 0, none⟩) p.frs.length p.frs.length, .slice none 0 0, .slice none 0 0, .int .i64 0, .int .i64 0, .int .i64 0, .int .i64 0, .int .i64 0, .int .i64 0, .int .i64 0, .int .i64 0, .int .i64 0, .int .i64 0, .int .i64 0, .int .i64 0] 30)) w1.heap.size := hA.keep (by (repeat' (first | exact Below.refl _ _ | assumption | refine Below.setCell ?_ (by first | omega | exact Below.size (by assumption) | (simp; done) | (simp; omega)) _ | refine Below.alloc ?_ (by first | omega | exact Below.size (by assumption) | (simp; done) | (simp; omega)) _ | refine Below.drew ?_ | refine below_drewN ?_ _))) (Nat.le_refl _)
  have hzW : ((w1.alloc (.cells (intsV (List.replicate p.frs.length 0)).toArray 3)).alloc (Obj.cells #[.slice (some ⟨w1.heap.size, 0, none⟩) p.frs.length p.frs.length, .slice none 0 0, .slice none 0 0, .int .i64 0, .int .i64 0, .int .i64 0, .int .i64 0, .int .i64 0, .int .i64 0, .int .i64 0, .int .i64 0, .int .i64 0, .int .i64 0, .int .i64 0, .int .i64 0] 30)).heap.size = w1.heap.size + 2 := by simp
  obtain ⟨gO, hgO⟩ : ∃ g, g = w1.heap.size + 1 := ⟨_, rfl⟩
  rw [← hgO] at hO ⊢
  have hl := lays_of HC.out
  have hll : p.er.frs.length = p.frs.length := by simp [PtM.er]
  have h0 : LayAt w1 ((w1.alloc (.cells (intsV (List.replicate p.frs.length 0)).toArray 3)).alloc (Obj.cells #[.slice (some ⟨w1.heap.size, 0, none⟩) p.frs.length p.frs.length, .slice none 0 0, .slice none 0 0, .int .i64 0, .int .i64 0, .int .i64 0, .int .i64 0, .int .i64 0, .int .i64 0, .int .i64 0, .int .i64 0, .int .i64 0, .int .i64 0, .int .i64 0, .int .i64 0] 30)) p.er base gO 1 (.slice none 0 0) (.slice none 0 0) :=
    ⟨by rw [hll]; exact hO, by show Blk _ _ _ (intsV (frAt p.er.frs base 1 0)).toArray; rw [← frAt_start hl, hll]; exact hF, fun _ => ⟨rfl, rfl⟩, fun h => by omega, fun h => by omega, by (repeat' (first | exact Below.refl _ _ | assumption | refine Below.setCell ?_ (by first | omega | exact Below.size (by assumption) | (simp; done) | (simp; omega)) _ | refine Below.alloc ?_ (by first | omega | exact Below.size (by assumption) | (simp; done) | (simp; omega)) _ | refine Below.drew ?_ | refine below_drewN ?_ _)), by simp; omega⟩
  have HLA := Lib.hid hl
  have HLL := Lib.hid hll
  have hgO' : w1.heap.size < gO := by omega
  clear p0 hll hl hO hF hmk hb2 hA2 hzW hgO
  go_loopw [8, 9] (fun at_ i wr => ∃ (s : Nat) (v2 v3 : Value), 1 ≤ s ∧ s ≤ 6 ∧ i = .int .i64 s ∧ at_ = .int .i64 (toN p.er base (s - 1)) ∧ LayAt w1 wr p.er base gO s v2 v3) (fun _ i _ => 6 - (intOf i).toNat)
  case atStart =>
    exact ⟨1, _, _, by omega, by omega, rfl, by rw [toN_other _ _ (by omega)]; rfl, h0⟩
  case round =>
    clear h0
    obtain ⟨s, v2, v3, hs1, hs6, rfl, rfl, hat⟩ := hrel
    by_cases hs5 : s ≤ 5
    · obtain ⟨rfl, rfl⟩ := hat.nil_ hs5
      have a1 := secEnd_le HLA.out base (s - 1)
      have hup : Calls Tryd.prog 29 #[.int .i64 (toN p.er base (s - 1) : Nat), .int .i64 16] wr _ := up_any (toN p.er base (s - 1)) 16 wr (by rw [toN_other _ _ (by omega)]; have := HB.out; omega) (by omega) (by omega)
      rw [show upN (toN p.er base (s - 1)) 16 = secFrom p.er.frs base s by rw [toN_other _ _ (by omega)]; rfl] at hup
      go_wp2_with fail
      refine hup.mono ?_
      rintro e w' ⟨rfl, rfl⟩
      clear hup
      have c3 : w'.cell? ⟨gO, 3 + s, none⟩ = some (.int .i64 0) := (hat.o.cell _).trans (lcells_get3 (sixAt_get _ hs1 hs5))
      have f3 := hat.o.frozen (3 + s)
      have b1 := hat.be.size
      have s1 := hat.sz
      go_upto_region 13 with (fail)
      have hI : LayIn w1 ((w'.setCell ⟨gO, 3 + s, none⟩ (.int .i64 (secFrom p.er.frs base s : Nat))).alloc (.map #[] 0)) p.er base gO w'.heap.size s 0 (.map []) := by
        have o := hat.o.set_ (3 + s) (.int .i64 (secFrom p.er.frs base s : Nat))
        have e : (lcells (.slice (some ⟨w1.heap.size, 0, none⟩) p.frs.length p.frs.length) (.slice none 0 0) (.slice none 0 0) (sixAt (secFrom p.er.frs base) (s - 1)) (sixAt (toN p.er base) (s - 1))).toArray.setIfInBounds (3 + s) (.int .i64 (secFrom p.er.frs base s : Nat)) =
            (lcells (.slice (some ⟨w1.heap.size, 0, none⟩) p.frs.length p.frs.length) (.slice none 0 0) (.slice none 0 0) (sixAt (secFrom p.er.frs base) s) (sixAt (toN p.er base) (s - 1))).toArray := by
          rw [List.setIfInBounds_toArray, lcells_from (by rw [sixAt_len]; omega), sixAt_put _ hs1 hs5]
        rw [HLL.out] at o
        rw [e] at o
        refine ⟨by rw [HLL.out]; exact o.alloc _, (hat.f.far (by simp only; omega) _).alloc _, ?_, tex_zero _ _ _, (hat.be.setCell (by simp only; omega) _).alloc (by simpa [World.setCell] using b1) _, by simpa [World.setCell] using (by omega : gO < w'.heap.size + 1)⟩
        have := World.ownsMap_made (H := Unit) (w'.setCell ⟨gO, 3 + s, none⟩ (.int .i64 (secFrom p.er.frs base s : Nat))) Tryd.prog 9 (plainElem Tryd.prog 3)
        simpa [World.setCell] using this
      have kP := kP.below hat.be kP.lt
      have kP2 : Blk ((w'.setCell ⟨gO, 3 + s, none⟩ (.int .i64 (secFrom p.er.frs base s : Nat))).alloc (.map #[] 0)) w.heap.size 25 #[.slice p.fa p.frs.length p.fc, .slice p.da p.dfs.length p.dc] := (kP.far (by simp only; omega) _).alloc _
      obtain ⟨gM, hgM⟩ : ∃ g, g = w'.heap.size := ⟨_, rfl⟩
      obtain ⟨W2, hW2⟩ : ∃ W, W = ((w'.setCell ⟨gO, 3 + s, none⟩ (.int .i64 (secFrom p.er.frs base s : Nat))).alloc (.map #[] 0)) := ⟨_, rfl⟩
      have hz2 : (w'.setCell ⟨gO, 3 + s, none⟩ (.int .i64 (secFrom p.er.frs base s : Nat))).heap.size = gM := by rw [hgM]; simp [World.setCell]
      rw [← hW2, ← hgM] at hI
      rw [← hW2] at kP2
      clear c3 f3 kP hat
      go_upto_region 14 with (fail)
      have p0 := kP2.cell 0
      have zM : w1.heap.size < gM := by omega
      have zO : gO < gM := by omega
      rw [← hgM, ← hW2]
      clear hgM hW2 hz2 b1 s1 a1 kP2
      go_wp2_with fail
      clear p0
      go_loopw [8, 49] (fun at_ i wr => ∃ (k : Nat) (D : DataW Unit), k ≤ p.frs.length ∧ i = .int .i64 k ∧ at_ = .int .i64 (posAt p.er.frs s (secFrom p.er.frs base s) k : Nat) ∧ LayIn w1 wr p.er base gO gM s k D) (fun _ i _ => p.frs.length - (intOf i).toNat)
      case atStart => exact ⟨0, _, Nat.zero_le _, rfl, rfl, hI⟩
      case round =>
        clear hI
        obtain ⟨k, D, hk, rfl, rfl, hI⟩ := hrel
        by_cases hlt : k < p.frs.length
        · obtain ⟨x, hx⟩ : ∃ x, p.frs[k]? = some x := ⟨_, List.getElem?_eq_getElem hlt⟩
          have hxe : p.er.frs[k]? = some x.f := by simp [PtM.er, hx]
          have hAr := hA.keep hI.be hI.be.size
          obtain ⟨b, off, hfa, bl, c0, c1, c2, c3, c4, c5⟩ := fg_get hAr.fr hx
          have hG := hAr.each x (List.mem_of_getElem? hx)
          have hb64 : x.f.bs.length ≤ 64 := hs.by_ x (List.mem_of_getElem? hx)
          rw [hfa]
          go_upto_region 17 with (fail)
          have kX := Blk.new wr 63 #[.int .i64 x.f.sect, .int .i64 x.f.align, .string x.f.group, .slice x.ba x.f.bs.length x.bc, .int .i64 x.f.size, .slice x.ra x.f.rs.length x.rc]
          have zX : gM < wr.heap.size := hI.m.lt
          have hI := hI.alloc (.cells #[.int .i64 x.f.sect, .int .i64 x.f.align, .string x.f.group, .slice x.ba x.f.bs.length x.bc, .int .i64 x.f.size, .slice x.ra x.f.rs.length x.rc] 63)
          have hG := hG.all ((Below.refl _ _).alloc (Nat.le_refl _) (.cells #[.int .i64 x.f.sect, .int .i64 x.f.align, .string x.f.group, .slice x.ba x.f.bs.length x.bc, .int .i64 x.f.size, .slice x.ra x.f.rs.length x.rc] 63))
          obtain ⟨gX, hgX⟩ : ∃ g, g = wr.heap.size := ⟨_, rfl⟩
          obtain ⟨W3, hW3⟩ : ∃ W, W = wr.alloc (.cells #[.int .i64 x.f.sect, .int .i64 x.f.align, .string x.f.group, .slice x.ba x.f.bs.length x.bc, .int .i64 x.f.size, .slice x.ra x.f.rs.length x.rc] 63) := ⟨_, rfl⟩
          rw [← hgX] at kX zX ⊢
          rw [← hW3] at kX hI hG ⊢
          clear hgX hW3 c0 c1 c2 c3 c4 c5 hx
          have x0 := kX.cell 0
          by_cases hse : x.f.sect = s
          · have x1 := kX.cell 1
            have x3 := kX.cell 3
            have hmem := List.mem_of_getElem? hxe
            obtain ⟨a0, a8, aeq, adv⟩ := HLA.out.al0 hmem
            obtain ⟨l64, leq⟩ := HLA.out.ln0 hmem
            have a1 : 0 ≤ x.f.align := by omega
            have a2 : x.f.align ≤ 8 := by omega
            have HSE := Lib.hid hse
            have q3 : (x.f.sect != (s : Int)) = false := by simpa using hse
            clear hse
            go_upto_region 18 with (fail)
            have hcv1 := key_conv (f := x.f) (c := x.bc) hG.by_
            have hcv2 := one_conv a1 a2 W3
            go_upto_region 19 with (fail)
            have HAE := Lib.hid aeq
            have HLE := Lib.hid leq
            have kX := kX.alloc (.cells #[.int .u8 x.f.align] 5)
            have hI := hI.alloc (.cells #[.int .u8 x.f.align] 5)
            have hM := hI.m
            have hkv := key_val x.f hb64
            have dO : (W3.alloc (.cells #[.int .u8 x.f.align] 5)).cell? ⟨gO, 0, none⟩ = some (.slice (some ⟨w1.heap.size, 0, none⟩) p.frs.length p.frs.length) := by rw [hI.o.cell, HLL.out]; rfl
            obtain ⟨tk, htk⟩ : ∃ t, (frAt p.er.frs base s k)[k]? = some t := ⟨_, frAt_get hxe⟩
            have dF : (W3.alloc (.cells #[.int .u8 x.f.align] 5)).cell? ⟨w1.heap.size, k, none⟩ = some (.int .i64 tk) := by rw [hI.f.cell]; simp [intsV, intV, htk]
            have fF := hI.f.frozen k
            obtain ⟨W4, hW4⟩ : ∃ W, W = W3.alloc (.cells #[.int .u8 x.f.align] 5) := ⟨_, rfl⟩
            rw [← hW4] at kX hI hM dO dF fF ⊢
            clear hW4 hcv1 hcv2 x0 x1 x3 aeq leq htk hG
            have hpos := posAt_le HLA.out hs1 hs5 (by rw [HLL.out]; exact hk) HB.out
            by_cases hold : s = 3 ∧ Maps.has D (strLit x.f.key) = true
            · obtain ⟨h3, hh⟩ := hold
              have q4 : ((s : Int) == 3) = true := by simp; omega
              have HH := Lib.hid hh
              have HO := Lib.hid (Tex.old (k := k) HLA.out (by have := hI.t; rw [h3] at this; exact this) hxe (HSE.out.trans (by omega)) hh)
              have HPS := Lib.hid (posAt_skip (a := secFrom p.er.frs base s) (s := s) hxe (.inr HO.out.2.1))
              have HFS := Lib.hid (frAt_set (base := base) hxe HSE.out)
              have HS3 := Lib.hid h3
              clear h3 hh
              go_wp2_with (at_lookup
                           refine wpList_lookup_own_ok_int _ rfl _ _ 59 rfl 9 3 .i64 keyed_str Tryd.underlying59 Tryd.underlying3 (zero_intL _) gM k D rfl hM (.string x.f.key) (strLit x.f.key) rfl hkv ?_
                           intro c hat hwc
                           rw [HH.out]
                           obtain rfl : (adrOf p.er.frs base k : Int) = c := by
                             have := HO.out.2.2
                             rw [hat] at this
                             injection this with this
                             injection this with _ this
                             exact this.symm
                           clear hat hwc)
              go_roundw
              case rel =>
                obtain ⟨o1, o2, o3, o4⟩ := hI.setF k (.int .i64 (adrOf p.er.frs base k : Nat)) (by omega)
                refine ⟨k + 1, D, by omega, by go_num, by rw [HPS.out], o1, ?_, (hM.setCell (by simp only; omega) _).mono (by omega), ?_, o3, o4⟩
                · rw [← HFS.out, ← intsV_set]; exact o2
                · rw [show (s : Int) = 3 by have := HS3.out; omega]; exact HO.out.1
              case measure => simp [intOf]; omega
            · have hnew : firstAt p.er.frs k = k := hI.t.new_ HLA.out hxe HSE.out (fun h3 => by
                rcases hh : Maps.has D (strLit x.f.key) with _ | _
                · rfl
                · exact absurd ⟨by omega, hh⟩ hold)
              have HPS0 := posAt_step (a := secFrom p.er.frs base s) hxe HSE.out hnew
              have HAD : adrOf p.er.frs base k = upN (posAt p.er.frs s (secFrom p.er.frs base s) k) x.f.al := by
                rw [adrOf_eq _ hxe, plcAt_eq _ (by rw [hnew]; exact hxe), hnew, HSE.out]
                rfl
              have hadr : adrOf p.er.frs base k ≤ 200100 := by have := upN_lt (posAt p.er.frs s (secFrom p.er.frs base s) k) x.f.al a0; omega
              rw [← HAD] at HPS0
              have HPS := Lib.hid HPS0
              have HFS := Lib.hid (frAt_set (base := base) hxe HSE.out)
              have hup := up_any (posAt p.er.frs s (secFrom p.er.frs base s) k) x.f.al W4 (by omega) a0 (by omega)
              rw [HAE.out, ← HAD] at hup
              have HO := Lib.hid hold
              have x1 := kX.cell 1
              clear HPS0 HAD hold hnew
              by_cases hh : Maps.has D (strLit x.f.key) = true
              · have q4 : ((s : Int) == 3) = false := by
                  have : s ≠ 3 := fun e => HO.out ⟨e, hh⟩
                  simp; omega
                have HH := Lib.hid hh
                clear hh
                (go_wp2_with (at_lookup; refine wpList_lookup_own_ok_int _ rfl _ _ 59 rfl 9 3 .i64 keyed_str Tryd.underlying59 Tryd.underlying3 (zero_int _) gM k D rfl hM (.string x.f.key) (strLit x.f.key) rfl hkv ?_; intro c hat hwc; rw [HH.out]; clear hat hwc); refine hup.mono ?_; rintro e w4 ⟨rfl, rfl⟩; clear hup; go_wp2_with (at_mapUpdate; refine wpList_mapUpdate_own _ rfl _ _ _ 59 rfl 9 3 keyed_str Tryd.underlying59 _ gM k D rfl (hM.setCell (by simp only; omega) _) (by unfold maxLen; omega) (.string x.f.key) (.int .i64 (adrOf p.er.frs base k : Nat)) (strLit x.f.key) rfl rfl hkv (.lit (.int .i64 (adrOf p.er.frs base k : Nat))) [] (plainElem_int Tryd.underlying3 (WalkArith.wf_i64 (by omega))) ?_; intro w5 hown5 hg5; obtain ⟨o1, o2, o3, o4⟩ := hI.setF k (.int .i64 (adrOf p.er.frs base k : Nat)) (by omega); have kX5 := (kX.far (by simp only; omega) _).grown hg5 (by intro e; injection e with e; omega); have hI5 : LayIn w1 w5 p.er base gO gM s (k + 1) (D.put (strLit x.f.key) (.lit (.int .i64 (adrOf p.er.frs base k : Nat)))) := ⟨o1.grown hg5 (by intro e; injection e with e; omega), by (rw [← HFS.out, ← intsV_set]; exact o2.grown hg5 (by intro e; injection e with e; omega)), hown5, hI.t.put HLA.out hxe HSE.out, o3.grown hg5 (by omega) (fun g hg' => by (injection hg' with hg'; omega)), by (have := hg5.size; omega)⟩; clear hown5 hg5 o1 o2 o3 o4 kX hI hM dO dF fF x1; have x0 := kX5.cell 0; have x1 := kX5.cell 1; have x2 := kX5.cell 2; have x3 := kX5.cell 3; have x4 := kX5.cell 4; have x5 := kX5.cell 5); have hlong : Calls Tryd.prog 30 #[.agg #[.int .i64 x.f.sect, .int .i64 x.f.align, .string x.f.group, .slice x.ba x.f.bs.length x.bc, .int .i64 x.f.size, .slice x.ra x.f.rs.length x.rc]] w5 _ := long_any x w5; rw [← HLE.out] at hlong; refine hlong.mono ?_; rintro e w6 ⟨rfl, hb6⟩; clear hlong x0 x1 x2 x3 x4 x5; have hI6 := hI5.all hb6; clear hI5; go_wp2_with fail; go_roundw; (case rel => exact ⟨k + 1, _, by omega, by go_num, by (rw [HPS.out]; go_num), hI6⟩); (case measure => simp [intOf]; omega))
              · have HH : Hid (Maps.has D (strLit x.f.key) = false) := by
                  show _ = _
                  simpa using hh
                clear hh
                (go_wp2_with (at_lookup; refine wpList_lookup_own_ok_int _ rfl _ _ 59 rfl 9 3 .i64 keyed_str Tryd.underlying59 Tryd.underlying3 (zero_int _) gM k D rfl hM (.string x.f.key) (strLit x.f.key) rfl hkv ?_; intro c hat hwc; rw [HH.out]; clear hat hwc); refine hup.mono ?_; rintro e w4 ⟨rfl, rfl⟩; clear hup; go_wp2_with (at_mapUpdate; refine wpList_mapUpdate_own _ rfl _ _ _ 59 rfl 9 3 keyed_str Tryd.underlying59 _ gM k D rfl (hM.setCell (by simp only; omega) _) (by unfold maxLen; omega) (.string x.f.key) (.int .i64 (adrOf p.er.frs base k : Nat)) (strLit x.f.key) rfl rfl hkv (.lit (.int .i64 (adrOf p.er.frs base k : Nat))) [] (plainElem_int Tryd.underlying3 (WalkArith.wf_i64 (by omega))) ?_; intro w5 hown5 hg5; obtain ⟨o1, o2, o3, o4⟩ := hI.setF k (.int .i64 (adrOf p.er.frs base k : Nat)) (by omega); have kX5 := (kX.far (by simp only; omega) _).grown hg5 (by intro e; injection e with e; omega); have hI5 : LayIn w1 w5 p.er base gO gM s (k + 1) (D.put (strLit x.f.key) (.lit (.int .i64 (adrOf p.er.frs base k : Nat)))) := ⟨o1.grown hg5 (by intro e; injection e with e; omega), by (rw [← HFS.out, ← intsV_set]; exact o2.grown hg5 (by intro e; injection e with e; omega)), hown5, hI.t.put HLA.out hxe HSE.out, o3.grown hg5 (by omega) (fun g hg' => by (injection hg' with hg'; omega)), by (have := hg5.size; omega)⟩; clear hown5 hg5 o1 o2 o3 o4 kX hI hM dO dF fF x1; have x0 := kX5.cell 0; have x1 := kX5.cell 1; have x2 := kX5.cell 2; have x3 := kX5.cell 3; have x4 := kX5.cell 4; have x5 := kX5.cell 5); have hlong : Calls Tryd.prog 30 #[.agg #[.int .i64 x.f.sect, .int .i64 x.f.align, .string x.f.group, .slice x.ba x.f.bs.length x.bc, .int .i64 x.f.size, .slice x.ra x.f.rs.length x.rc]] w5 _ := long_any x w5; rw [← HLE.out] at hlong; refine hlong.mono ?_; rintro e w6 ⟨rfl, hb6⟩; clear hlong x0 x1 x2 x3 x4 x5; have hI6 := hI5.all hb6; clear hI5; go_wp2_with fail; go_roundw; (case rel => exact ⟨k + 1, _, by omega, by go_num, by (rw [HPS.out]; go_num), hI6⟩); (case measure => simp [intOf]; omega))
          · have q3 : (x.f.sect != (s : Int)) = true := by simpa using hse
            have hI2 := hI.skip hxe hse
            have HPS := Lib.hid (posAt_skip (a := secFrom p.er.frs base s) hxe (.inl hse))
            clear hse
            go_wp2_with fail
            go_roundw
            case rel => exact ⟨k + 1, D, by omega, by go_num, by rw [HPS.out], hI2⟩
            case measure => simp [intOf]; omega
        · obtain rfl : k = p.frs.length := by omega
          have HE := Lib.hid (secEnd_pos p.er.frs base hs1)
          have hse := secEnd_le HLA.out base s
          have hbb := HB.out
          have t9 : wr.cell? ⟨gO, 9 + s, none⟩ = some (.int .i64 0) := (hI.o.cell _).trans (lcells_get9 (sixAt_len _ _) (sixAt_get _ hs1 hs5))
          have f9 := hI.o.frozen (9 + s)
          rw [show posAt p.er.frs s (secFrom p.er.frs base s) p.frs.length = secEnd p.er.frs base s by rw [HE.out, HLL.out]]
          by_cases h5 : s = 5
          · have q5 : ((s : Int) == 5) = true := by simp; omega
            have H5 := Lib.hid h5
            have hPw := (kP.below hI.be kP.lt)
            have y0 := hPw.cell 0
            have y1 := hPw.cell 1
            have hcom := commons_any p wr gO (secEnd p.er.frs base s) _ _ _ (hA.keep hI.be (by omega)) hI.o HC.out (by omega)
            clear h5 t9 f9
            go_wp2_with fail
            refine hcom.mono ?_
            rintro e w7 ⟨v2, v3, rfl, kO, ow2, ow3, G⟩
            have HL : Hid (comAt p.er.dfs (secEnd p.er.frs base s) (definedP p.er) = layEnd p.er base) := by show _ = _; rw [H5.out]; rfl
            rw [HL.out] at ow2 ow3 ⊢
            have t9 : w7.cell? ⟨gO, 9 + s, none⟩ = some (.int .i64 0) := (kO.cell _).trans (lcells_get9 (sixAt_len _ _) (sixAt_get _ hs1 hs5))
            have f9 := kO.frozen (9 + s)
            have hF := hI.f.grown G (by intro e; injection e with e; omega)
            have hbe := hI.be.trans ((below_gro G (by have := hI.sz; omega)).mono (by omega))
            have hsz := G.size
            have o4 : gO < w7.heap.size := by have := hI.sz; omega
            have ow2 := ow2.mono hI.be.size
            have ow3 := ow3.mono hI.be.size
            clear hcom y0 y1 hPw
            go_wp2_with fail
            go_roundw
            case rel =>
              refine ⟨s + 1, v2, v3, by omega, by omega, by go_num, by rw [Nat.add_sub_cancel, H5.out, toN_five], ?_, ?_, fun h => absurd h (by have := H5.out; omega), fun _ => own_setCell ow2 (own_blk_ne ow2 kO (by decide)) _, fun _ => own_setCell ow3 (own_blk_ne ow3 kO (by decide)) _, hbe.setCell (by simp only; omega) _, by simpa [World.setCell] using o4⟩
              · have o := kO.set_ (9 + s) (.int .i64 ((layEnd p.er base).at_ : Nat))
                rw [List.setIfInBounds_toArray, lcells_to (sixAt_len _ _), show ((layEnd p.er base).at_ : Int) = ((toN p.er base s : Nat) : Int) by rw [H5.out, toN_five], sixAt_put _ hs1 hs5] at o
                rw [show ((layEnd p.er base).at_ : Int) = ((toN p.er base s : Nat) : Int) by rw [H5.out, toN_five]]
                exact o
              · have e := frAt_next (fs := p.er.frs) (base := base) (s := s)
                rw [HLL.out] at e
                show Blk _ _ _ (intsV (frAt p.er.frs base ((s : Int) + 1) 0)).toArray
                rw [← e]
                exact hF.far (by simp only; omega) _
            case measure => simp [intOf]; omega
          · have q5 : ((s : Int) == 5) = false := by simp; omega
            have HT : Hid (toN p.er base s = secEnd p.er.frs base s) := toN_other _ _ h5
            have h4 : s + 1 ≤ 5 := by omega
            clear h5
            go_wp2_with fail
            go_roundw
            case rel =>
              refine ⟨s + 1, _, _, by omega, by omega, by go_num, by rw [Nat.add_sub_cancel, HT.out], ?_, ?_, fun _ => ⟨rfl, rfl⟩, fun h => by omega, fun h => by omega, hI.be.setCell (by simp only; omega) _, by simpa [World.setCell] using hI.sz⟩
              · have o := hI.o.set_ (9 + s) (.int .i64 (secEnd p.er.frs base s : Nat))
                rw [← HT.out, List.setIfInBounds_toArray, lcells_to (sixAt_len _ _), sixAt_put _ hs1 hs5] at o
                rw [← HT.out]
                exact o
              · have e := frAt_next (fs := p.er.frs) (base := base) (s := s)
                rw [HLL.out] at e
                show Blk _ _ _ (intsV (frAt p.er.frs base ((s : Int) + 1) 0)).toArray
                rw [← e]
                exact hI.f.far (by simp only; omega) _
            case measure => simp [intOf]; omega
    · obtain rfl : s = 6 := by omega
      have ha : (layEnd p.er base).at_ ≤ 500000 := by
        have h1 := (com_len (comOk_of HC.out) (secEnd p.er.frs base 5) (definedP p.er)).2.2.2
        have h2 := secEnd_le HLA.out base 5
        have h3 := setS_len (p.er.dfs.map Df.name)
        have h4 := hs.df
        have h5 := HB.out
        have e : (p.er.dfs.map Df.name).length = p.dfs.length := by simp [PtM.er]
        have e2 : layEnd p.er base = comAt p.er.dfs (secEnd p.er.frs base 5) (definedP p.er) := rfl
        rw [← e2] at h1
        unfold definedP at h1
        omega
      rw [toN_five]
      have kRw : Blk wr gR 30 #[.slice none 0 0, .slice none 0 0, .slice none 0 0, .int .i64 0, .int .i64 0, .int .i64 0, .int .i64 0, .int .i64 0, .int .i64 0, .int .i64 0, .int .i64 0, .int .i64 0, .int .i64 0, .int .i64 0, .int .i64 0] := kR.below hat.be kR.lt
      obtain ⟨B2, d2, rfl, _, _⟩ := own_form (hat.ns rfl)
      obtain ⟨B3, d3, rfl, _, _⟩ := own_form (hat.cs rfl)
      by_cases hx : 65536 < (layEnd p.er base).at_
      · have q5 : decide ((65536 : Int) < ((layEnd p.er base).at_ : Nat)) = true := decide_eq_true (by omega)
        have HX := Lib.hid hx
        clear hx
        (have r0 := kRw.cell 0; have g0 := kRw.frozen 0; have r1 := kRw.cell 1; have g1 := kRw.frozen 1; have r2 := kRw.cell 2; have g2 := kRw.frozen 2; have r3 := kRw.cell 3; have g3 := kRw.frozen 3; have r4 := kRw.cell 4; have g4 := kRw.frozen 4; have r5 := kRw.cell 5; have g5 := kRw.frozen 5; have r6 := kRw.cell 6; have g6 := kRw.frozen 6; have r7 := kRw.cell 7; have g7 := kRw.frozen 7; have r8 := kRw.cell 8; have g8 := kRw.frozen 8; have r9 := kRw.cell 9; have g9 := kRw.frozen 9; have r10 := kRw.cell 10; have g10 := kRw.frozen 10; have r11 := kRw.cell 11; have g11 := kRw.frozen 11; have r12 := kRw.cell 12; have g12 := kRw.frozen 12; have r13 := kRw.cell 13; have g13 := kRw.frozen 13; have r14 := kRw.cell 14; have g14 := kRw.frozen 14)
        have hbr := hb.trans (hat.be.mono hb.size)
        clear kP kR hA kP0 kR0 hat
        go_upto_region 30 with (fail)
        go_wp2_with fail
        (obtain ⟨W9, hW9⟩ : ∃ W, W = put15 wr gR (.slice none 0 0) (.slice none 0 0) (.slice none 0 0) (.int .i64 0) (.int .i64 0) (.int .i64 0) (.int .i64 0) (.int .i64 0) (.int .i64 0) (.int .i64 0) (.int .i64 0) (.int .i64 0) (.int .i64 0) (.int .i64 0) (.int .i64 0)  := ⟨_, rfl⟩; have kZ := put15_blk (.slice none 0 0) (.slice none 0 0) (.slice none 0 0) (.int .i64 0) (.int .i64 0) (.int .i64 0) (.int .i64 0) (.int .i64 0) (.int .i64 0) (.int .i64 0) (.int .i64 0) (.int .i64 0) (.int .i64 0) (.int .i64 0) (.int .i64 0)  kRw; have hB9 := put15_below (.slice none 0 0) (.slice none 0 0) (.slice none 0 0) (.int .i64 0) (.int .i64 0) (.int .i64 0) (.int .i64 0) (.int .i64 0) (.int .i64 0) (.int .i64 0) (.int .i64 0) (.int .i64 0) (.int .i64 0) (.int .i64 0) (.int .i64 0)  hbr (by omega : w.heap.size ≤ gR); have hz9 := put15_size (w := wr) (g := gR) (.slice none 0 0) (.slice none 0 0) (.slice none 0 0) (.int .i64 0) (.int .i64 0) (.int .i64 0) (.int .i64 0) (.int .i64 0) (.int .i64 0) (.int .i64 0) (.int .i64 0) (.int .i64 0) (.int .i64 0) (.int .i64 0) (.int .i64 0) ; have G9 := put15_grown (.slice none 0 0) (.slice none 0 0) (.slice none 0 0) (.int .i64 0) (.int .i64 0) (.int .i64 0) (.int .i64 0) (.int .i64 0) (.int .i64 0) (.int .i64 0) (.int .i64 0) (.int .i64 0) (.int .i64 0) (.int .i64 0) (.int .i64 0)  wr gR; rw [← hW9] at kZ hB9 hz9 G9; unfold put15 at hW9; rw [← hW9]; clear hW9; have r0 := kZ.cell 0; have r1 := kZ.cell 1; have r2 := kZ.cell 2; have r3 := kZ.cell 3; have r4 := kZ.cell 4; have r5 := kZ.cell 5; have r6 := kZ.cell 6; have r7 := kZ.cell 7; have r8 := kZ.cell 8; have r9 := kZ.cell 9; have r10 := kZ.cell 10; have r11 := kZ.cell 11; have r12 := kZ.cell 12; have r13 := kZ.cell 13; have r14 := kZ.cell 14)
        have HE : Hid (layE p.er base = 10) := by
          show _ = _
          unfold layE
          rw [if_neg (by simp [HC.out]), if_neg (by have := HB.out; omega), if_pos (by simpa using HX.out)]
        refine bodyPost_ret (v := .tuple #[.agg #[.slice none 0 0, .slice none 0 0, .slice none 0 0, .int .i64 0, .int .i64 0, .int .i64 0, .int .i64 0, .int .i64 0, .int .i64 0, .int .i64 0, .int .i64 0, .int .i64 0, .int .i64 0, .int .i64 0, .int .i64 0], .int .i64 10]) (by simp [results, Tryd.results7, go_sem, r0, r1, r2, r3, r4, r5, r6, r7, r8, r9, r10, r11, r12, r13, r14]) rfl ?_
        exact ⟨⟨.zero, none, 0, none, 0, none, 0⟩, by rw [HE.out]; rfl, by unfold layR; rw [HE.out]; rfl, ⟨Reads.none_, Reads.none_, Reads.none_⟩, hB9⟩
      · have q5 : decide ((65536 : Int) < ((layEnd p.er base).at_ : Nat)) = false := decide_eq_false (by omega)
        have HX := Lib.hid hx
        clear hx
        have hbr := hb.trans (hat.be.mono hb.size)
        have kOw : Blk wr gO 30 #[(.slice (some ⟨w1.heap.size, 0, none⟩) p.frs.length p.frs.length), (.slice B2 (layEnd p.er base).ns.length d2), (.slice B3 (layEnd p.er base).cs.length d3), (.int .i64 0), (.int .i64 (secFrom p.er.frs base 1 : Nat)), (.int .i64 (secFrom p.er.frs base 2 : Nat)), (.int .i64 (secFrom p.er.frs base 3 : Nat)), (.int .i64 (secFrom p.er.frs base 4 : Nat)), (.int .i64 (secFrom p.er.frs base 5 : Nat)), (.int .i64 0), (.int .i64 (toN p.er base 1 : Nat)), (.int .i64 (toN p.er base 2 : Nat)), (.int .i64 (toN p.er base 3 : Nat)), (.int .i64 (toN p.er base 4 : Nat)), (.int .i64 (toN p.er base 5 : Nat))] := by
          have o := hat.o
          rw [show 6 - 1 = 5 from rfl, sixAt_five, sixAt_five, HLL.out] at o
          exact o
        have hfr := hat.f
        rw [show ((6 : Nat) : Int) = 6 from rfl, frAt_end HLA.out] at hfr
        have hns := hat.ns rfl
        have hcs := hat.cs rfl
        have nns := own_blk_ne hns kRw (by decide)
        have ncs := own_blk_ne hcs kRw (by decide)
        have nfr : some w1.heap.size ≠ some gR := by
          intro e
          injection e with e
          have := kR.lt
          omega
        (have r0 := kRw.cell 0; have g0 := kRw.frozen 0; have r1 := kRw.cell 1; have g1 := kRw.frozen 1; have r2 := kRw.cell 2; have g2 := kRw.frozen 2; have r3 := kRw.cell 3; have g3 := kRw.frozen 3; have r4 := kRw.cell 4; have g4 := kRw.frozen 4; have r5 := kRw.cell 5; have g5 := kRw.frozen 5; have r6 := kRw.cell 6; have g6 := kRw.frozen 6; have r7 := kRw.cell 7; have g7 := kRw.frozen 7; have r8 := kRw.cell 8; have g8 := kRw.frozen 8; have r9 := kRw.cell 9; have g9 := kRw.frozen 9; have r10 := kRw.cell 10; have g10 := kRw.frozen 10; have r11 := kRw.cell 11; have g11 := kRw.frozen 11; have r12 := kRw.cell 12; have g12 := kRw.frozen 12; have r13 := kRw.cell 13; have g13 := kRw.frozen 13; have r14 := kRw.cell 14; have g14 := kRw.frozen 14)
        (have a0 := kOw.cell 0; have a1 := kOw.cell 1; have a2 := kOw.cell 2; have a3 := kOw.cell 3; have a4 := kOw.cell 4; have a5 := kOw.cell 5; have a6 := kOw.cell 6; have a7 := kOw.cell 7; have a8 := kOw.cell 8; have a9 := kOw.cell 9; have a10 := kOw.cell 10; have a11 := kOw.cell 11; have a12 := kOw.cell 12; have a13 := kOw.cell 13; have a14 := kOw.cell 14)
        clear kP kR hA kP0 kR0 hat kOw
        go_upto_region 31 with (fail)
        go_wp2_with fail
        (obtain ⟨W9, hW9⟩ : ∃ W, W = put15 wr gR (.slice (some ⟨w1.heap.size, 0, none⟩) p.frs.length p.frs.length) (.slice B2 (layEnd p.er base).ns.length d2) (.slice B3 (layEnd p.er base).cs.length d3) (.int .i64 0) (.int .i64 (secFrom p.er.frs base 1 : Nat)) (.int .i64 (secFrom p.er.frs base 2 : Nat)) (.int .i64 (secFrom p.er.frs base 3 : Nat)) (.int .i64 (secFrom p.er.frs base 4 : Nat)) (.int .i64 (secFrom p.er.frs base 5 : Nat)) (.int .i64 0) (.int .i64 (toN p.er base 1 : Nat)) (.int .i64 (toN p.er base 2 : Nat)) (.int .i64 (toN p.er base 3 : Nat)) (.int .i64 (toN p.er base 4 : Nat)) (.int .i64 (toN p.er base 5 : Nat)) := ⟨_, rfl⟩; have kZ := put15_blk (.slice (some ⟨w1.heap.size, 0, none⟩) p.frs.length p.frs.length) (.slice B2 (layEnd p.er base).ns.length d2) (.slice B3 (layEnd p.er base).cs.length d3) (.int .i64 0) (.int .i64 (secFrom p.er.frs base 1 : Nat)) (.int .i64 (secFrom p.er.frs base 2 : Nat)) (.int .i64 (secFrom p.er.frs base 3 : Nat)) (.int .i64 (secFrom p.er.frs base 4 : Nat)) (.int .i64 (secFrom p.er.frs base 5 : Nat)) (.int .i64 0) (.int .i64 (toN p.er base 1 : Nat)) (.int .i64 (toN p.er base 2 : Nat)) (.int .i64 (toN p.er base 3 : Nat)) (.int .i64 (toN p.er base 4 : Nat)) (.int .i64 (toN p.er base 5 : Nat)) kRw; have hB9 := put15_below (.slice (some ⟨w1.heap.size, 0, none⟩) p.frs.length p.frs.length) (.slice B2 (layEnd p.er base).ns.length d2) (.slice B3 (layEnd p.er base).cs.length d3) (.int .i64 0) (.int .i64 (secFrom p.er.frs base 1 : Nat)) (.int .i64 (secFrom p.er.frs base 2 : Nat)) (.int .i64 (secFrom p.er.frs base 3 : Nat)) (.int .i64 (secFrom p.er.frs base 4 : Nat)) (.int .i64 (secFrom p.er.frs base 5 : Nat)) (.int .i64 0) (.int .i64 (toN p.er base 1 : Nat)) (.int .i64 (toN p.er base 2 : Nat)) (.int .i64 (toN p.er base 3 : Nat)) (.int .i64 (toN p.er base 4 : Nat)) (.int .i64 (toN p.er base 5 : Nat)) hbr (by omega : w.heap.size ≤ gR); have hz9 := put15_size (w := wr) (g := gR) (.slice (some ⟨w1.heap.size, 0, none⟩) p.frs.length p.frs.length) (.slice B2 (layEnd p.er base).ns.length d2) (.slice B3 (layEnd p.er base).cs.length d3) (.int .i64 0) (.int .i64 (secFrom p.er.frs base 1 : Nat)) (.int .i64 (secFrom p.er.frs base 2 : Nat)) (.int .i64 (secFrom p.er.frs base 3 : Nat)) (.int .i64 (secFrom p.er.frs base 4 : Nat)) (.int .i64 (secFrom p.er.frs base 5 : Nat)) (.int .i64 0) (.int .i64 (toN p.er base 1 : Nat)) (.int .i64 (toN p.er base 2 : Nat)) (.int .i64 (toN p.er base 3 : Nat)) (.int .i64 (toN p.er base 4 : Nat)) (.int .i64 (toN p.er base 5 : Nat)); have G9 := put15_grown (.slice (some ⟨w1.heap.size, 0, none⟩) p.frs.length p.frs.length) (.slice B2 (layEnd p.er base).ns.length d2) (.slice B3 (layEnd p.er base).cs.length d3) (.int .i64 0) (.int .i64 (secFrom p.er.frs base 1 : Nat)) (.int .i64 (secFrom p.er.frs base 2 : Nat)) (.int .i64 (secFrom p.er.frs base 3 : Nat)) (.int .i64 (secFrom p.er.frs base 4 : Nat)) (.int .i64 (secFrom p.er.frs base 5 : Nat)) (.int .i64 0) (.int .i64 (toN p.er base 1 : Nat)) (.int .i64 (toN p.er base 2 : Nat)) (.int .i64 (toN p.er base 3 : Nat)) (.int .i64 (toN p.er base 4 : Nat)) (.int .i64 (toN p.er base 5 : Nat)) wr gR; rw [← hW9] at kZ hB9 hz9 G9; unfold put15 at hW9; rw [← hW9]; clear hW9; have r0 := kZ.cell 0; have r1 := kZ.cell 1; have r2 := kZ.cell 2; have r3 := kZ.cell 3; have r4 := kZ.cell 4; have r5 := kZ.cell 5; have r6 := kZ.cell 6; have r7 := kZ.cell 7; have r8 := kZ.cell 8; have r9 := kZ.cell 9; have r10 := kZ.cell 10; have r11 := kZ.cell 11; have r12 := kZ.cell 12; have r13 := kZ.cell 13; have r14 := kZ.cell 14)
        have HE : Hid (layE p.er base = 0) := by
          show _ = _
          unfold layE
          rw [if_neg (by simp [HC.out]), if_neg (by have := HB.out; omega), if_neg (by simpa using HX.out)]
        refine bodyPost_ret (v := .tuple #[.agg #[(.slice (some ⟨w1.heap.size, 0, none⟩) p.frs.length p.frs.length), (.slice B2 (layEnd p.er base).ns.length d2), (.slice B3 (layEnd p.er base).cs.length d3), (.int .i64 0), (.int .i64 (secFrom p.er.frs base 1 : Nat)), (.int .i64 (secFrom p.er.frs base 2 : Nat)), (.int .i64 (secFrom p.er.frs base 3 : Nat)), (.int .i64 (secFrom p.er.frs base 4 : Nat)), (.int .i64 (secFrom p.er.frs base 5 : Nat)), (.int .i64 0), (.int .i64 (toN p.er base 1 : Nat)), (.int .i64 (toN p.er base 2 : Nat)), (.int .i64 (toN p.er base 3 : Nat)), (.int .i64 (toN p.er base 4 : Nat)), (.int .i64 (toN p.er base 5 : Nat))], .int .i64 0]) (by simp [results, Tryd.results7, go_sem, r0, r1, r2, r3, r4, r5, r6, r7, r8, r9, r10, r11, r12, r13, r14]) rfl ?_
        have hl1 : (layFr p.er base).length = p.frs.length := by unfold layFr; simp [PtM.er]
        refine ⟨⟨⟨layFr p.er base, (layEnd p.er base).ns, (layEnd p.er base).cs, layFrom p.er base, layTo p.er base⟩, some ⟨w1.heap.size, 0, none⟩, p.frs.length, B2, d2, B3, d3⟩, ?_, ?_, ⟨?_, ?_, ?_⟩, hB9⟩
        · rw [HE.out]
          unfold LyM.cells
          simp only [hl1]
          rfl
        · unfold layR
          rw [if_pos HE.out]
          rfl
        · have h1 := (hfr.grown G9 nfr).reads (size := 1) (n := (layFr p.er base).length) (by simp [intsV, layFr])
          have e : (intsV ((List.range p.er.frs.length).map fun i => (adrOf p.er.frs base i : Int))).toArray.toList = natsV (layFr p.er base) := by
            unfold natsV layFr
            rw [List.map_map]
            rfl
          rw [e] at h1
          exact h1
        · exact Reads.of_own (own_kept hns G9 (.inr nns))
        · exact Reads.of_own (own_kept hcs G9 (.inr ncs))
end Go.Proofs.YtmlomnhjbmocfaaDoor
