/- LkA: texts that belong together. -/
import Derived.Test.YtbhjdinjoonngaaBA
import Derived.Test.YtbhjdinjoonngaaFaultW
import Derived.Test.YtbhjdinjoonngaaFillQ
import Derived.Test.YtbhjdinjoonngaaLayH
import Derived.Test.YtbhjdinjoonngaaLkF
set_option linter.all false
/- LayoutApart's plain law: fragments stand aligned, in order, and none meets another one. No program in sight. -/
namespace Go.Proofs.Ytbhjdinjoonngaa

theorem secEnd_pos' (fs : List Frg) (base : Nat) {s : Nat} (hs : 1 ≤ s) : secEnd fs base s = posAt fs s (secFrom fs base s) fs.length := by
  obtain ⟨t, rfl⟩ : ∃ t, s = t + 1 := ⟨s - 1, by omega⟩
  show posAt fs ((t : Int) + 1) _ _ = _
  rw [show ((t : Int) + 1) = ((t + 1 : Nat) : Int) by omega]
  rfl
section
variable {fs : List Frg} {base : Nat}
/-- What holds of where a fragment stands, by the one that stands there first. -/
theorem plc_bounds (hl : Lays fs) (a : Nat) {k : Nat} {g : Frg} (hg : fs[k]? = some g) (hk : firstAt fs k = k) :
    a ≤ upN (posAt fs g.sect a k) g.al ∧ upN (posAt fs g.sect a k) g.al + g.ln ≤ posAt fs g.sect a (k + 1) := by
  have h1 := posAt_up hl g.sect a 0 k (Nat.zero_le _)
  have h2 := upN_le (posAt fs g.sect a k) g.al (hl.al0 (List.mem_of_getElem? hg)).1
  have h3 := posAt_step (a := a) hg rfl hk
  have e : posAt fs g.sect a 0 = a := rfl
  omega
theorem adr_in (hl : Lays fs) {k : Nat} {f : Frg} (hf : fs[k]? = some f) :
    adrOf fs base k % f.al = 0 ∧ secFrom fs base f.sect.toNat ≤ adrOf fs base k ∧ adrOf fs base k + f.ln ≤ secEnd fs base f.sect.toNat := by
  obtain ⟨g, hg, h1, h2, _, h3⟩ := first_get hf
  have hs := hl.sect f (List.mem_of_getElem? hf)
  have hal : g.al = f.al := by unfold Frg.al; rw [h2]
  rw [adrOf_eq _ hf, plcAt_eq _ hg, hal]
  obtain ⟨b1, b2⟩ := plc_bounds hl (secFrom fs base f.sect.toNat) hg (firstAt_twice k)
  rw [hal] at b1 b2
  have b3 := posAt_up hl g.sect (secFrom fs base f.sect.toNat) (firstAt fs k + 1) fs.length (by have := (List.getElem?_eq_some_iff.1 hg).1; omega)
  refine ⟨upN_mod _ _, b1, ?_⟩
  rw [secEnd_pos' fs base (show 1 ≤ f.sect.toNat by omega), show ((f.sect.toNat : Nat) : Int) = g.sect by rw [h1]; omega]
  omega
/-- Two of one section. -/
theorem adr_apart (hl : Lays fs) {i k : Nat} {f g : Frg} (hf : fs[i]? = some f) (hg : fs[k]? = some g) (hs : g.sect = f.sect) (hik : firstAt fs k < firstAt fs i) : adrOf fs base k + g.ln ≤ adrOf fs base i := by
  obtain ⟨f', hf', h1, h2, _, h3⟩ := first_get hf
  obtain ⟨g', hg', j1, j2, _, j3⟩ := first_get hg
  have b2 := (plc_bounds hl (secFrom fs base f.sect.toNat) hg' (firstAt_twice k)).2
  have b3 := posAt_up hl g'.sect (secFrom fs base f.sect.toNat) (firstAt fs k + 1) (firstAt fs i) hik
  rw [adrOf_eq _ hf, adrOf_eq _ hg, plcAt_eq _ hf', plcAt_eq _ hg', hs]
  have b4 := upN_le (posAt fs f'.sect (secFrom fs base f.sect.toNat) (firstAt fs i)) f'.al (hl.al0 (List.mem_of_getElem? hf')).1
  rw [show g'.sect = f'.sect by rw [j1, h1, hs]] at b2 b3 ⊢
  omega
theorem adr_same {i k : Nat} {f g : Frg} (hf : fs[i]? = some f) (hg : fs[k]? = some g) (hs : g.sect = f.sect) (hik : firstAt fs k = firstAt fs i) : adrOf fs base k = adrOf fs base i := by
  rw [adrOf_eq _ hf, adrOf_eq _ hg, hs]
  unfold plcAt
  rw [hik]
theorem adr_texts {i k : Nat} {f g : Frg} (hf : fs[i]? = some f) (hg : fs[k]? = some g) (hs : g.sect = f.sect) (h3 : f.sect = 3) (ha : g.align = f.align) (hb : g.bs = f.bs) : adrOf fs base k = adrOf fs base i :=
  adr_same hf hg hs (firstAt_alike hf hg h3 (hs.trans h3) ha hb)
/-- What is no text stands behind those ahead of it. -/
theorem adr_behind (hl : Lays fs) {i k : Nat} {f g : Frg} (hf : fs[i]? = some f) (hg : fs[k]? = some g) (hs : g.sect = f.sect) (h3 : f.sect ≠ 3) (hik : k < i) : adrOf fs base k + g.ln ≤ adrOf fs base i :=
  adr_apart hl hf hg hs (by rw [firstAt_other hf h3, firstAt_other hg (by rw [hs]; exact h3)]; exact hik)
theorem adr_text (hl : Lays fs) {i k : Nat} {f g : Frg} (hf : fs[i]? = some f) (hg : fs[k]? = some g) (hs : g.sect = f.sect) :
    adrOf fs base k + g.ln ≤ adrOf fs base i ∨ adrOf fs base i + f.ln ≤ adrOf fs base k ∨ adrOf fs base i = adrOf fs base k := by
  rcases Nat.lt_trichotomy (firstAt fs k) (firstAt fs i) with h | h | h
  · exact .inl (adr_apart hl hf hg hs h)
  · exact .inr (.inr (adr_same hf hg hs h).symm)
  · exact .inr (.inl (adr_apart hl hg hf hs.symm h))
end
/-- Sections: one behind the other. -/
theorem sec_row {p : Prt} {base s : Nat} (h : layE p base = 0) (h1 : 1 ≤ s) (h5 : s ≤ 5) :
    secFrom p.frs base s % 16 = 0 ∧ toN p base (s - 1) ≤ secFrom p.frs base s ∧ secFrom p.frs base s ≤ toN p base s ∧ toN p base s ≤ 65536 ∧ secEnd p.frs base s ≤ toN p base s := by
  obtain ⟨hc, _, _, h3⟩ := layE_zero h
  have e : (base : Int).toNat = base := by omega
  rw [e] at h3
  have hl := lays_of hc
  have hle := (com_at (comOk_of hc) (secEnd p.frs base 5) (definedP p)).le
  have e2 : (comAt p.dfs (secEnd p.frs base 5) (definedP p)).at_ = (layEnd p base).at_ := rfl
  have up : ∀ s, s ≤ 5 → secEnd p.frs base s ≤ toN p base s ∧ toN p base s ≤ 65536 := by
    have mono : ∀ d s, s + d = 5 → secEnd p.frs base s ≤ secEnd p.frs base 5 := by
      intro d
      induction d with
      | zero => intro s hs; rw [show s = 5 by omega]; exact Nat.le_refl _
      | succ d ih =>
        intro s hs
        have := ih (s + 1) (by omega)
        have := secEnd_next hl base s
        omega
    intro s hs
    unfold toN
    split
    · rename_i h5
      rw [h5]
      omega
    · have := mono (5 - s) s (by omega)
      omega
  have hn := secEnd_next hl base (s - 1)
  rw [show s - 1 + 1 = s by omega] at hn
  have h4 := up s h5
  have e3 : toN p base (s - 1) = secEnd p.frs base (s - 1) := if_neg (by omega)
  rw [e3]
  exact ⟨upN_mod _ _, hn.1, by omega, h4.2, h4.1⟩
/-- Common names: behind all fragments, one behind the other. -/
theorem com_row {p : Prt} {base i : Nat} (h : layE p base = 0) {n : ByteArray} {c : Nat} (hn : (layEnd p base).ns[i]? = some n) (hcs : (layEnd p base).cs[i]? = some c) :
    ∃ d, findL p.dfs n = (d, 0) ∧ d.kind = 3 ∧ 0 < d.align.toNat ∧ (d.align.toNat : Int) = d.align ∧ (d.size.toNat : Int) = d.size ∧ d.align.toNat ≤ 8 ∧ d.size.toNat ≤ 64 ∧ c % d.align.toNat = 0 ∧ secEnd p.frs base 5 ≤ c ∧ c + d.size.toNat ≤ (layEnd p base).at_ ∧
      ∀ j n' c', i < j → (layEnd p base).ns[j]? = some n' → (layEnd p base).cs[j]? = some c' → c + d.size.toNat ≤ c' ∧ keyOf n ≤ keyOf n' ∧ keyOf n ≠ keyOf n' := by
  obtain ⟨hc, _⟩ := layE_zero h
  obtain ⟨d, h1, h2, h3, h4, h5, h6⟩ := (com_at (comOk_of hc) (secEnd p.frs base 5) (definedP p)).each i n c hn hcs
  have hd : d.comOk := by have := comOk_find (comOk_of hc) n; rw [h1] at this; exact this
  obtain ⟨a1, a2, a3, a4, a5, a6, a7⟩ := com_al hd h2
  refine ⟨d, h1, h2, a1, a3, a7, a2, a5, h3, h4, h5, fun j n' c' hij hj hcj => ⟨h6 j n' c' hij hj hcj, ?_⟩⟩
  obtain ⟨i1, e1⟩ := List.getElem?_eq_some_iff.1 hn
  obtain ⟨j1, e2⟩ := List.getElem?_eq_some_iff.1 hj
  have := List.pairwise_iff_getElem.1 (lay_ns_rising p base) i j (by simpa using i1) (by simpa using j1) hij
  simpa [e1, e2] using this
end Go.Proofs.Ytbhjdinjoonngaa

/- link.Link: what it is, as plain data. No program in sight. -/
namespace Go.Proofs.Ytbhjdinjoonngaa
open Go.RowKit

/-- What a place leads to: its address. -/
def targetA (p : Prt) (base : Nat) (r : Rel) : Int × Int :=
  if 0 < r.name.size then whereA p base r.name else if r.frag < 0 then (0, 8) else (adrOf p.frs base r.frag.toNat, 0)
/-- A fault: what, of which name, of which fragment, where. -/
structure Flx where
  e : Int
  name : ByteArray
  frag : Int
  at_ : Int
def Flx.cells (f : Flx) : List Value := [.int .i64 f.e, .string f.name, .int .i64 f.frag, .int .i64 f.at_]
def flxsV (l : List Flx) : List Value := l.flatMap Flx.cells
theorem flxsV_append (l m : List Flx) : flxsV (l ++ m) = flxsV l ++ flxsV m := by unfold flxsV; rw [List.flatMap_append]
def Flt.x (f : Flt) : Flx := ⟨f.e, f.name, 0, 0⟩
theorem flts_x (l : List Flt) : fltsV l = flxsV (l.map Flt.x) := by
  unfold fltsV flxsV
  rw [List.flatMap_map]
  rfl
theorem flx_one (f : Flx) : ∀ u ∈ f.cells, u.oneCell' = true := by
  intro u hu
  simp [Flx.cells] at hu
  rcases hu with rfl | rfl | rfl | rfl <;> rfl
/-- What comes of a place: bytes, and what is told. -/
def placeOf (p : Prt) (base i : Nat) (r : Rel) : Int × Int :=
  if (targetA p base r).2 = 0 then valueRes r.kind (adrOf p.frs base i + r.at_) (targetA p base r).1 r.add else (0, (targetA p base r).2)
def fillStep (p : Prt) (base i : Nat) (st : List UInt8 × List Flx) (r : Rel) : List UInt8 × List Flx :=
  if (targetA p base r).2 = 6 ∨ (targetA p base r).2 = 7 then st
  else if (placeOf p base i r).2 ≠ 0 then (st.1, st.2 ++ [⟨(placeOf p base i r).2, ⟨#[]⟩, i, r.at_⟩])
  else ((putRes st.1 r.at_ r.kind (placeOf p base i r).1).1, st.2)
def filledAt (p : Prt) (base i : Nat) (rs : List Rel) (b : List UInt8) : List UInt8 × List Flx := rs.foldl (fillStep p base i) (b, [])
def filledP (p : Prt) (base i : Nat) : List UInt8 × List Flx :=
  match p.frs[i]? with
  | some f => filledAt p base i f.rs f.bs
  | none => ([], [])
theorem filledAt_snoc (p : Prt) (base i : Nat) (rs : List Rel) (r : Rel) (b : List UInt8) : filledAt p base i (rs ++ [r]) b = fillStep p base i (filledAt p base i rs b) r := by unfold filledAt; rw [List.foldl_append]; rfl
/-- Its faults, all of them. -/
def linkFl0 (p : Prt) (base : Nat) (entry : ByteArray) : List Flx :=
  (faultsP p).map Flt.x ++ (if (whereA p base entry).2 = 7 ∧ entry ∉ (faultsP p).map Flt.name then [⟨7, entry, 0, 0⟩] else [])
def linkFl (p : Prt) (base : Nat) (entry : ByteArray) : List Flx := linkFl0 p base entry ++ (List.range p.frs.length).flatMap fun i => (filledP p base i).2
/-- The bytes of a segment: noughts, over which each fragment's are laid. -/
def layOver (b : List UInt8) (k : Nat) (c : List UInt8) : List UInt8 := b.take k ++ c.take (b.length - k) ++ b.drop (k + c.length)
def segStep (p : Prt) (base at_ : Nat) (sects : List Int) (b : List UInt8) (i : Nat) : List UInt8 :=
  match p.frs[i]? with
  | some f => if f.sect ≠ 5 ∧ f.sect ∈ sects then layOver b (adrOf p.frs base i - at_) (filledP p base i).1 else b
  | none => b
def segBytes (p : Prt) (base at_ end_ : Nat) (sects : List Int) (k : Nat) : List UInt8 := (List.range k).foldl (segStep p base at_ sects) (List.replicate (end_ - at_) 0)
/-- A segment's plain data. -/
structure SgP where
  at_ : Nat
  bs : List UInt8
  zeros : Nat
  writes : Bool
  works : Bool
def segP (p : Prt) (base first last : Nat) (sects : List Int) : SgP :=
  let e := if last = 5 then toN p base 4 else toN p base last
  ⟨secFrom p.frs base first, segBytes p base (secFrom p.frs base first) e sects p.frs.length, if last = 5 then toN p base 5 - toN p base 4 else 0, decide (first = 4), decide (first = 1)⟩
def linkE (p : Prt) (base : Int) (entry : ByteArray) : Int := if ckPart p ≠ 0 then ckPart p else if nameB entry = false then 1 else layE p base
structure ImP where
  entry : Int
  segs : List SgP
/-- Link: an image, its faults, an error. -/
def linkP (p : Prt) (base : Int) (entry : ByteArray) : ImP × List Flx × Int :=
  if linkE p base entry ≠ 0 then (⟨0, []⟩, [], linkE p base entry)
  else if linkFl p base.toNat entry ≠ [] then (⟨0, []⟩, linkFl p base.toNat entry, 0)
  else (⟨(whereA p base.toNat entry).1, [segP p base.toNat 1 1 [1], segP p base.toNat 2 3 [2, 3], segP p base.toNat 4 5 [4, 5]]⟩, [], 0)
end Go.Proofs.Ytbhjdinjoonngaa

/- link.target: what it computes. -/
namespace Go.Proofs.Ytbhjdinjoonngaa
open Go.RowKit

set_option maxHeartbeats 8000000 in
set_option maxRecDepth 100000 in
theorem target_any (p : PtM) (l : LyM) (base : Nat) (r : Rel) (w : World) (h : p.At w w.heap.size) (hl : l.At w w.heap.size) (hr : l.r = layR p.er base) (h0 : layE p.er base = 0) (hfr : r.name.size = 0 → r.frag < p.frs.length) :
    Calls Try.prog 138 #[.agg #[.slice p.fa p.frs.length p.fc, .slice p.da p.dfs.length p.dc], .agg #[(.slice l.fa p.frs.length l.fc), (.slice l.na (layEnd p.er base).ns.length l.nc), (.slice l.ca (layEnd p.er base).cs.length l.cc), (.int .i64 0), (.int .i64 (secFrom p.er.frs base 1 : Nat)), (.int .i64 (secFrom p.er.frs base 2 : Nat)), (.int .i64 (secFrom p.er.frs base 3 : Nat)), (.int .i64 (secFrom p.er.frs base 4 : Nat)), (.int .i64 (secFrom p.er.frs base 5 : Nat)), (.int .i64 0), (.int .i64 (toN p.er base 1 : Nat)), (.int .i64 (toN p.er base 2 : Nat)), (.int .i64 (toN p.er base 3 : Nat)), (.int .i64 (toN p.er base 4 : Nat)), (.int .i64 (toN p.er base 5 : Nat))], .agg #[.int .i64 r.at_, .int .i64 r.kind, .string r.name, .int .i64 r.frag, .int .i64 r.add]] w
      fun e w' => e = .returned (.tuple #[.int .i64 (targetA p.er base r).1, .int .i64 (targetA p.er base r).2]) ∧ Below w.heap.size w w' := by
  have hsm := small_of (layE_zero h0).1
  have hf6 := hsm.fr
  have kP := ((Blk.new w 44 #[.slice p.fa p.frs.length p.fc, .slice p.da p.dfs.length p.dc]).alloc (.cells #[(.slice l.fa p.frs.length l.fc), (.slice l.na (layEnd p.er base).ns.length l.nc), (.slice l.ca (layEnd p.er base).cs.length l.cc), (.int .i64 0), (.int .i64 (secFrom p.er.frs base 1 : Nat)), (.int .i64 (secFrom p.er.frs base 2 : Nat)), (.int .i64 (secFrom p.er.frs base 3 : Nat)), (.int .i64 (secFrom p.er.frs base 4 : Nat)), (.int .i64 (secFrom p.er.frs base 5 : Nat)), (.int .i64 0), (.int .i64 (toN p.er base 1 : Nat)), (.int .i64 (toN p.er base 2 : Nat)), (.int .i64 (toN p.er base 3 : Nat)), (.int .i64 (toN p.er base 4 : Nat)), (.int .i64 (toN p.er base 5 : Nat))] 93)).alloc (.cells #[.int .i64 (r).at_, .int .i64 (r).kind, .string (r).name, .int .i64 (r).frag, .int .i64 (r).add] 119)
  have kL := (Blk.new' (w.alloc (.cells #[.slice (p).fa (p).frs.length (p).fc, .slice (p).da (p).dfs.length (p).dc] 44)) 93 #[(.slice l.fa p.frs.length l.fc), (.slice l.na (layEnd p.er base).ns.length l.nc), (.slice l.ca (layEnd p.er base).cs.length l.cc), (.int .i64 0), (.int .i64 (secFrom p.er.frs base 1 : Nat)), (.int .i64 (secFrom p.er.frs base 2 : Nat)), (.int .i64 (secFrom p.er.frs base 3 : Nat)), (.int .i64 (secFrom p.er.frs base 4 : Nat)), (.int .i64 (secFrom p.er.frs base 5 : Nat)), (.int .i64 0), (.int .i64 (toN p.er base 1 : Nat)), (.int .i64 (toN p.er base 2 : Nat)), (.int .i64 (toN p.er base 3 : Nat)), (.int .i64 (toN p.er base 4 : Nat)), (.int .i64 (toN p.er base 5 : Nat))] (g := w.heap.size + 1) (by simp)).alloc (.cells #[.int .i64 (r).at_, .int .i64 (r).kind, .string (r).name, .int .i64 (r).frag, .int .i64 (r).add] 119)
  have kR := Blk.new' ((w.alloc (.cells #[.slice (p).fa (p).frs.length (p).fc, .slice (p).da (p).dfs.length (p).dc] 44)).alloc (.cells #[(.slice l.fa p.frs.length l.fc), (.slice l.na (layEnd p.er base).ns.length l.nc), (.slice l.ca (layEnd p.er base).cs.length l.cc), (.int .i64 0), (.int .i64 (secFrom p.er.frs base 1 : Nat)), (.int .i64 (secFrom p.er.frs base 2 : Nat)), (.int .i64 (secFrom p.er.frs base 3 : Nat)), (.int .i64 (secFrom p.er.frs base 4 : Nat)), (.int .i64 (secFrom p.er.frs base 5 : Nat)), (.int .i64 0), (.int .i64 (toN p.er base 1 : Nat)), (.int .i64 (toN p.er base 2 : Nat)), (.int .i64 (toN p.er base 3 : Nat)), (.int .i64 (toN p.er base 4 : Nat)), (.int .i64 (toN p.er base 5 : Nat))] 93)) 119 #[.int .i64 r.at_, .int .i64 r.kind, .string r.name, .int .i64 r.frag, .int .i64 r.add] (g := w.heap.size + 1 + 1) (by simp)
  have hb : Below w.heap.size w (((w.alloc (.cells #[.slice (p).fa (p).frs.length (p).fc, .slice (p).da (p).dfs.length (p).dc] 44)).alloc (.cells #[(.slice l.fa p.frs.length l.fc), (.slice l.na (layEnd p.er base).ns.length l.nc), (.slice l.ca (layEnd p.er base).cs.length l.cc), (.int .i64 0), (.int .i64 (secFrom p.er.frs base 1 : Nat)), (.int .i64 (secFrom p.er.frs base 2 : Nat)), (.int .i64 (secFrom p.er.frs base 3 : Nat)), (.int .i64 (secFrom p.er.frs base 4 : Nat)), (.int .i64 (secFrom p.er.frs base 5 : Nat)), (.int .i64 0), (.int .i64 (toN p.er base 1 : Nat)), (.int .i64 (toN p.er base 2 : Nat)), (.int .i64 (toN p.er base 3 : Nat)), (.int .i64 (toN p.er base 4 : Nat)), (.int .i64 (toN p.er base 5 : Nat))] 93)).alloc (.cells #[.int .i64 (r).at_, .int .i64 (r).kind, .string (r).name, .int .i64 (r).frag, .int .i64 (r).add] 119)) := by (repeat' (first | exact Below.refl _ _ | assumption | refine Below.setCell ?_ (by first | omega | exact Below.size (by assumption) | (simp; done) | (simp; omega)) _ | refine Below.alloc ?_ (by first | omega | exact Below.size (by assumption) | (simp; done) | (simp; omega)) _ | refine Below.drew ?_ | refine below_drewN ?_ _))
  have h1 := h.all hb
  have h2 := hl.keep hb hb.size
  have HT : Hid (targetA p.er base r = if 0 < r.name.size then whereA p.er base r.name else if r.frag < 0 then (0, 8) else ((adrOf p.er.frs base r.frag.toNat : Int), 0)) := by show _ = _; rfl
  have HFR := Lib.hid hfr
  clear h hl hfr hsm
  go_enter Try.func138, Try.ntmps138
  go_upto_region 1 with (fail)
  obtain ⟨W0, hW0⟩ : ∃ W, W = ((w.alloc (.cells #[.slice (p).fa (p).frs.length (p).fc, .slice (p).da (p).dfs.length (p).dc] 44)).alloc (.cells #[(.slice l.fa p.frs.length l.fc), (.slice l.na (layEnd p.er base).ns.length l.nc), (.slice l.ca (layEnd p.er base).cs.length l.cc), (.int .i64 0), (.int .i64 (secFrom p.er.frs base 1 : Nat)), (.int .i64 (secFrom p.er.frs base 2 : Nat)), (.int .i64 (secFrom p.er.frs base 3 : Nat)), (.int .i64 (secFrom p.er.frs base 4 : Nat)), (.int .i64 (secFrom p.er.frs base 5 : Nat)), (.int .i64 0), (.int .i64 (toN p.er base 1 : Nat)), (.int .i64 (toN p.er base 2 : Nat)), (.int .i64 (toN p.er base 3 : Nat)), (.int .i64 (toN p.er base 4 : Nat)), (.int .i64 (toN p.er base 5 : Nat))] 93)).alloc (.cells #[.int .i64 (r).at_, .int .i64 (r).kind, .string (r).name, .int .i64 (r).frag, .int .i64 (r).add] 119) := ⟨_, rfl⟩
  rw [← hW0] at kP kL kR hb h1 h2 ⊢
  obtain ⟨gR, hgR⟩ : ∃ g, g = w.heap.size + 1 + 1 := ⟨_, rfl⟩
  obtain ⟨gL, hgL⟩ : ∃ g, g = w.heap.size + 1 := ⟨_, rfl⟩
  rw [← hgR] at kR ⊢
  rw [← hgL] at kL ⊢
  clear hW0 hgR hgL
  have c2 := kR.cell 2
  rcases Nat.eq_zero_or_pos r.name.size with hn | hn
  · have q1 := toList_nil hn
    have HT2 := Lib.hid (HT.out.trans (if_neg (by omega)))
    have hfr := HFR.out hn
    have c3 := kR.cell 3
    clear hn
    by_cases hneg : r.frag < 0
    · have HT3 := Lib.hid (HT2.out.trans (if_pos hneg))
      go_wp2_with fail
      go_ret2
      exact ⟨by rw [HT3.out]; rfl, hb⟩
    · have HT3 := Lib.hid (HT2.out.trans (if_neg hneg))
      obtain ⟨m, hm⟩ : ∃ m : Nat, r.frag = m := ⟨r.frag.toNat, by omega⟩
      have hlt : m < p.frs.length := by omega
      have hke : m < p.er.frs.length := by simpa [PtM.er] using hlt
      have hlf := h2.fr
      rw [hr, layR_zero h0] at hlf
      dsimp only at hlf
      rw [show (layFr p.er base).length = p.frs.length by unfold layFr; simp [PtM.er]] at hlf
      obtain ⟨b1, o1, u1, e1, z1, f1, d1⟩ := hlf.at_ hlt
      rw [natsV_at (show (layFr p.er base)[m]? = some (adrOf p.er.frs base m) by unfold layFr; rw [List.getElem?_map, List.getElem?_range hke]; rfl)] at f1
      injection f1 with f1
      subst f1
      have c0 := kL.cell 0
      rw [hm] at c3
      have HM := Lib.hid hm
      clear hm hneg hfr hke h2 h1 hlf hr
      rw [e1] at c0 ⊢
      go_wp2_with fail
      go_ret2
      exact ⟨by rw [HT3.out, HM.out]; rfl, hb⟩
  · have q1 := toList_one hn
    have q2 := toList_some hn
    have HT2 := Lib.hid (HT.out.trans (if_pos hn))
    have HWH := Lib.hid (where_any p l base r.name W0 h1 h2 hr h0)
    (have x0 := kL.cell 0; have x1 := kL.cell 1; have x2 := kL.cell 2; have x3 := kL.cell 3; have x4 := kL.cell 4; have x5 := kL.cell 5; have x6 := kL.cell 6; have x7 := kL.cell 7; have x8 := kL.cell 8; have x9 := kL.cell 9; have x10 := kL.cell 10; have x11 := kL.cell 11; have x12 := kL.cell 12; have x13 := kL.cell 13; have x14 := kL.cell 14)
    have p0 := kP.cell 0
    have p1 := kP.cell 1
    clear hn
    go_wp2_with fail
    refine HWH.out.mono ?_
    rintro e w3 ⟨rfl, hb3⟩
    go_wp2_with fail
    go_ret2
    exact ⟨by rw [HT2.out]; rfl, hb.trans (hb3.mono hb.size)⟩
end Go.Proofs.Ytbhjdinjoonngaa

/- link.Link's plain law: places filled one by one; what each place says behind it. No program in sight. -/
namespace Go.Proofs.Ytbhjdinjoonngaa
open Go.RowKit

/-- What a right place says. -/
structure Rel.Fine (nb last : Int) (r : Rel) : Prop where
  wide : wideOf r.kind = 1 ∨ wideOf r.kind = 2
  kind : leastOf r.kind ≤ mostOf r.kind
  at0 : last ≤ r.at_
  at1 : r.at_ ≤ nb - wideOf r.kind
  add0 : -10000 ≤ r.add
  add1 : r.add ≤ 10000
def FineRels (nb : Int) : Int → List Rel → Prop
  | _, [] => True
  | last, r :: rs => r.Fine nb last ∧ FineRels nb (r.at_ + wideOf r.kind) rs
theorem ckRel_fine {many nb last : Int} {r : Rel} (h : ckRel many nb last r = 0) : r.Fine nb last := by
  unfold ckRel at h
  split at h
  · cases h
  · rename_i h1
    have hw : wideOf r.kind ≠ 0 := fun e => h1 (.inl e)
    have hk : r.kind = 1 ∨ r.kind = 2 ∨ r.kind = 3 ∨ r.kind = 4 := by
      rcases kinds_split r.kind with e | e | e | e | ⟨e1, e2, e3, e4⟩
      · exact .inl e
      · exact .inr (.inl e)
      · exact .inr (.inr (.inl e))
      · exact .inr (.inr (.inr e))
      · exact absurd (by unfold wideOf; rw [if_neg e1, if_neg e3, if_neg e2, if_neg e4]) hw
    refine ⟨?_, ?_, by omega, by omega, by omega, by omega⟩
    · rcases hk with e | e | e | e <;> rw [e] <;> decide
    · rcases hk with e | e | e | e <;> rw [e] <;> decide
theorem ckRels_fine {many nb : Int} : ∀ (l : List Rel) (last : Int), ckRels many nb last l = 0 → FineRels nb last l
  | [], _, _ => trivial
  | r :: rs, last, h => by
    rw [ckRels] at h
    split at h
    · rename_i h1; exact absurd h h1
    · rename_i h1
      exact ⟨ckRel_fine (by simpa using h1), ckRels_fine rs _ h⟩
theorem FineRels.mem {nb : Int} : ∀ {l : List Rel} {last : Int}, 0 ≤ last → FineRels nb last l → ∀ r ∈ l, r.Fine nb last
  | r :: rs, last, h0, h, x, hx => by
    rcases List.mem_cons.1 hx with rfl | hx
    · exact h.1
    · have h1 := h.1
      have h2 := FineRels.mem (by have := h1.at0; rcases h1.wide with e | e <;> omega) h.2 x hx
      exact ⟨h2.wide, h2.kind, by have := h2.at0; have := h1.at0; rcases h1.wide with e | e <;> omega, h2.at1, h2.add0, h2.add1⟩

/-- All places filled. -/
def fillAll (v : Rel → Int) (rs : List Rel) (b : List UInt8) : List UInt8 := rs.foldl (fun b r => putB b r.at_.toNat r.kind (v r)) b
theorem fillAll_len (v : Rel → Int) : ∀ (rs : List Rel) (b : List UInt8), (fillAll v rs b).length = b.length
  | [], _ => rfl
  | r :: rs, b => (fillAll_len v rs _).trans (putB_len _ _ _ _)
theorem fillAll_low (v : Rel → Int) {nb : Int} : ∀ (rs : List Rel) (last : Int) (b : List UInt8), 0 ≤ last → FineRels nb last rs → ∀ q : Nat, (q : Int) < last → (fillAll v rs b)[q]? = b[q]?
  | [], _, _, _, _, _, _ => rfl
  | r :: rs, last, b, h0, h, q, hq => by
    have h1 := h.1.at0
    have hw := h.1.wide
    have e := fillAll_low v rs (r.at_ + wideOf r.kind) (putB b r.at_.toNat r.kind (v r)) (by omega) h.2 q (by omega)
    exact e.trans (put_else (.inl (by omega)) (by omega))
theorem getB_congr {k : Int} {b c : List UInt8} {p : Nat} (hw : wideOf k = 1 ∨ wideOf k = 2) (h : ∀ q : Nat, p ≤ q → (q : Int) < p + wideOf k → b[q]? = c[q]?) : getB b p k = getB c p k := by
  unfold getB
  rcases hw with hw | hw
  · rw [if_neg (by omega), if_neg (by omega), List.getD_eq_getElem?_getD, List.getD_eq_getElem?_getD, h p (Nat.le_refl _) (by omega)]
  · rw [if_pos hw, if_pos hw, List.getD_eq_getElem?_getD, List.getD_eq_getElem?_getD, List.getD_eq_getElem?_getD, List.getD_eq_getElem?_getD, h p (Nat.le_refl _) (by omega), h (p + 1) (by omega) (by omega)]
/-- Each place has its number. -/
theorem fillAll_get (v : Rel → Int) {nb : Int} : ∀ (rs : List Rel) (last : Int) (b : List UInt8), 0 ≤ last → FineRels nb last rs → (b.length : Int) = nb → (∀ r ∈ rs, leastOf r.kind ≤ v r ∧ v r ≤ mostOf r.kind) →
    ∀ r ∈ rs, signed r.kind (getB (fillAll v rs b) r.at_.toNat r.kind) = v r
  | x :: rs, last, b, h0, h, hb, hv, r, hr => by
    have h1 := h.1
    have a0 := h1.at0
    have a1 := h1.at1
    have hw := h1.wide
    have hl := putB_len b x.at_.toNat x.kind (v x)
    rcases List.mem_cons.1 hr with rfl | hr
    · have e : getB (fillAll v (r :: rs) b) r.at_.toNat r.kind = getB (putB b r.at_.toNat r.kind (v r)) r.at_.toNat r.kind :=
        getB_congr hw fun q hq1 hq2 => fillAll_low v rs _ _ (by omega) h.2 q (by omega)
      rw [e]
      exact get_put h1.kind (hv r (by simp)).1 (hv r (by simp)).2 (by omega)
    · exact fillAll_get v rs _ _ (by omega) h.2 (by rw [hl]; exact hb) (fun r hr => hv r (by simp [hr])) r hr
/-- All else is as it was. -/
theorem fillAll_else (v : Rel → Int) {nb : Int} : ∀ (rs : List Rel) (last : Int) (b : List UInt8), 0 ≤ last → FineRels nb last rs → ∀ q : Nat, (∀ r ∈ rs, (q : Int) < r.at_ ∨ r.at_ + wideOf r.kind ≤ q) → (fillAll v rs b)[q]? = b[q]?
  | [], _, _, _, _, _, _ => rfl
  | x :: rs, last, b, h0, h, q, hq => by
    have h1 := h.1
    have a0 := h1.at0
    have hw := h1.wide
    have e := fillAll_else v rs _ (putB b x.at_.toNat x.kind (v x)) (by omega) h.2 q (fun r hr => hq r (by simp [hr]))
    have := hq x (by simp)
    exact e.trans (put_else (by omega) (by omega))

theorem place_ok {p : Prt} {base i : Nat} {r : Rel} (h : (placeOf p base i r).2 = 0) : (targetA p base r).2 = 0 ∧ (valueRes r.kind (adrOf p.frs base i + r.at_) (targetA p base r).1 r.add).2 = 0 ∧ placeOf p base i r = valueRes r.kind (adrOf p.frs base i + r.at_) (targetA p base r).1 r.add := by
  unfold placeOf at h ⊢
  split at h
  · rename_i h0
    rw [if_pos h0]
    exact ⟨h0, h, rfl⟩
  · rename_i h0
    exact absurd h h0
theorem place_in {p : Prt} {base i : Nat} {r : Rel} (h : (placeOf p base i r).2 = 0) : leastOf r.kind ≤ (placeOf p base i r).1 ∧ (placeOf p base i r).1 ≤ mostOf r.kind := by
  obtain ⟨_, h2, e⟩ := place_ok h
  rw [e]
  have := valueRes_ok h2
  exact ⟨this.2.2.2.2.2.2.2.2.1, this.2.2.2.2.2.2.2.2.2⟩
theorem putRes_fine {nb : Int} {b : List UInt8} {r : Rel} {n : Int} {last : Int} (h0 : 0 ≤ last) (h : r.Fine nb last) (hb : (b.length : Int) = nb) (h64 : nb ≤ 64) (h1 : leastOf r.kind ≤ n) (h2 : n ≤ mostOf r.kind) : putRes b r.at_ r.kind n = (putB b r.at_.toNat r.kind n, 0) :=
  putRes_fits h.kind (by omega) (by have := h.at0; omega) (by have := h.at1; omega) h1 h2
/-- One step: bytes as many, and no fewer faults. -/
theorem fillStep_len {p : Prt} {base i : Nat} {nb last : Int} {st : List UInt8 × List Flx} {r : Rel} (h0 : 0 ≤ last) (h : r.Fine nb last) (hb : (st.1.length : Int) = nb) (h64 : nb ≤ 64) : ((fillStep p base i st r).1.length : Int) = nb := by
  unfold fillStep
  split
  · exact hb
  · split
    · exact hb
    · rename_i h1
      have h2 := place_in (p := p) (base := base) (i := i) (r := r) (by simpa using h1)
      rw [putRes_fine h0 h hb h64 h2.1 h2.2]
      simp only [putB_len]
      exact hb
theorem fold_len {p : Prt} {base i : Nat} {nb : Int} (h64 : nb ≤ 64) : ∀ (rs : List Rel) (st : List UInt8 × List Flx), (∀ r ∈ rs, r.Fine nb 0) → (st.1.length : Int) = nb → ((rs.foldl (fillStep p base i) st).1.length : Int) = nb
  | [], _, _, h => h
  | r :: rs, st, hf, hb => fold_len h64 rs _ (fun x hx => hf x (by simp [hx])) (fillStep_len (Int.le_refl 0) (hf r (by simp)) hb h64)
theorem fold_more {p : Prt} {base i : Nat} : ∀ (rs : List Rel) (st : List UInt8 × List Flx), ∃ m, (rs.foldl (fillStep p base i) st).2 = st.2 ++ m
  | [], st => ⟨[], by simp⟩
  | r :: rs, st => by
    obtain ⟨m, hm⟩ := fold_more rs (fillStep p base i st r)
    rw [List.foldl_cons, hm]
    unfold fillStep
    split
    · exact ⟨m, rfl⟩
    · split
      · exact ⟨⟨(placeOf p base i r).2, ⟨#[]⟩, i, r.at_⟩ :: m, by simp⟩
      · exact ⟨m, rfl⟩
/-- Where nothing is told, every place has its number. -/
theorem fold_clean {p : Prt} {base i : Nat} {nb : Int} (h64 : nb ≤ 64) : ∀ (rs : List Rel) (b : List UInt8), (∀ r ∈ rs, r.Fine nb 0) → (b.length : Int) = nb → (∀ r ∈ rs, (targetA p base r).2 ≠ 6 ∧ (targetA p base r).2 ≠ 7) →
    (rs.foldl (fillStep p base i) (b, [])).2 = [] → (∀ r ∈ rs, (placeOf p base i r).2 = 0) ∧ (rs.foldl (fillStep p base i) (b, [])).1 = fillAll (fun r => (placeOf p base i r).1) rs b
  | [], b, _, _, _, _ => ⟨fun _ h => absurd h (by simp), rfl⟩
  | r :: rs, b, hf, hb, ht, h => by
    have ht0 := ht r (by simp)
    rw [List.foldl_cons] at h ⊢
    have hp : (placeOf p base i r).2 = 0 := by
      by_cases h1 : (placeOf p base i r).2 = 0
      · exact h1
      · obtain ⟨m, hm⟩ := fold_more (p := p) (base := base) (i := i) rs (fillStep p base i (b, []) r)
        rw [hm] at h
        have e : fillStep p base i (b, []) r = (b, [⟨(placeOf p base i r).2, ⟨#[]⟩, i, r.at_⟩]) := by
          unfold fillStep
          rw [if_neg (by omega), if_pos h1]
          rfl
        rw [e] at h
        simp at h
    have hi := place_in hp
    have e : fillStep p base i (b, []) r = (putB b r.at_.toNat r.kind (placeOf p base i r).1, []) := by
      unfold fillStep
      rw [if_neg (by omega), if_neg (by simpa using hp)]
      simp only
      rw [putRes_fine (Int.le_refl 0) (hf r (by simp)) hb h64 hi.1 hi.2]
    rw [e] at h ⊢
    obtain ⟨h1, h2⟩ := fold_clean h64 rs _ (fun x hx => hf x (by simp [hx])) (by rw [putB_len]; exact hb) (fun x hx => ht x (by simp [hx])) h
    refine ⟨fun x hx => ?_, h2⟩
    rcases List.mem_cons.1 hx with rfl | hx
    · exact hp
    · exact h1 x hx
/-- What is told of places: which, and what. -/
theorem fold_faults {p : Prt} {base i : Nat} : ∀ (rs : List Rel) (st : List UInt8 × List Flx), ∀ f ∈ (rs.foldl (fillStep p base i) st).2, f ∈ st.2 ∨ ∃ r ∈ rs, f = ⟨(placeOf p base i r).2, ⟨#[]⟩, i, r.at_⟩ ∧ (placeOf p base i r).2 ≠ 0 ∧ (targetA p base r).2 ≠ 6 ∧ (targetA p base r).2 ≠ 7
  | [], _, f, hf => .inl hf
  | r :: rs, st, f, hf => by
    rw [List.foldl_cons] at hf
    rcases fold_faults rs _ f hf with h | ⟨x, hx, h⟩
    · unfold fillStep at h
      split at h
      · exact .inl h
      · rename_i h6
        split at h
        · rename_i h0
          rcases List.mem_append.1 h with h | h
          · exact .inl h
          · exact .inr ⟨r, by simp, by simpa using h, h0, by omega, by omega⟩
        · exact .inl h
    · exact .inr ⟨x, by simp [hx], h⟩
end Go.Proofs.Ytbhjdinjoonngaa

/- link.Link's plain law: where nothing is told each fragment's bytes lie in the image where the fragment stands. No program in sight. -/
namespace Go.Proofs.Ytbhjdinjoonngaa
open Go.RowKit

/-- What a right fragment says. -/
structure Frg.Fine (f : Frg) : Prop where
  rels : FineRels f.bs.length 0 f.rs
  len : f.bs.length ≤ 64
  zero : f.sect = 5 → f.bs = [] ∧ f.rs = [] ∧ (f.ln : Int) = f.size
  text : f.sect = 3 → f.rs = []
  ln : f.sect ≠ 5 → f.ln = f.bs.length
theorem frag_fine {p : Prt} (hc : ckPart p = 0) {f : Frg} (hf : f ∈ p.frs) : f.Fine := by
  have hl := (lays_of hc).ln0 hf
  have h1 := ((ok_iff p).1 hc).fr f hf
  have hr := ckFrag_rels h1
  unfold ckFrag at h1
  split at h1
  · cases h1
  · split at h1
    · cases h1
    · split at h1
      · cases h1
      · rename_i g3
        split at h1
        · cases h1
        · rename_i g4
          have g5 : f.formed := by simpa using g4
          unfold Frg.formed at g5
          refine ⟨ckRels_fine _ _ hr, by omega, fun h5 => ?_, fun h3 => ?_, fun h5 => ?_⟩
          · have g6 : ¬ (0 < f.bs.length ∨ 0 < f.rs.length ∨ f.size < 0 ∨ 64 < f.size) := fun h => g5 (.inl ⟨h5, h⟩)
            refine ⟨List.eq_nil_of_length_eq_zero (by omega), List.eq_nil_of_length_eq_zero (by omega), ?_⟩
            rw [hl.2]
            unfold Frg.long
            rw [if_pos h5]
          · exact List.eq_nil_of_length_eq_zero (by
              rcases Nat.eq_zero_or_pos f.rs.length with h | h
              · exact h
              · exact absurd (.inr (.inr ⟨h3, h⟩)) g5)
          · have h2 := hl.2
            unfold Frg.long at h2
            rw [if_neg h5] at h2
            omega
theorem filledP_eq {p : Prt} {base i : Nat} {f : Frg} (hf : p.frs[i]? = some f) : filledP p base i = filledAt p base i f.rs f.bs := by unfold filledP; rw [hf]
theorem filled_len {p : Prt} (hc : ckPart p = 0) {base i : Nat} {f : Frg} (hf : p.frs[i]? = some f) : (filledP p base i).1.length = f.bs.length := by
  have h := frag_fine hc (List.mem_of_getElem? hf)
  rw [filledP_eq hf]
  have := fold_len (p := p) (base := base) (i := i) (nb := f.bs.length) (by have := h.len; omega) f.rs (f.bs, []) (fun r hr => h.rels.mem (Int.le_refl 0) r hr) rfl
  unfold filledAt
  omega
theorem filled_none {p : Prt} {base i : Nat} {f : Frg} (hf : p.frs[i]? = some f) (hr : f.rs = []) : filledP p base i = (f.bs, []) := by
  rw [filledP_eq hf, hr]; rfl

/-! ### where things stand, within bounds -/
theorem adr_le {p : Prt} {base i : Nat} {f : Frg} (h : layE p base = 0) (hf : p.frs[i]? = some f) : secFrom p.frs base f.sect.toNat ≤ adrOf p.frs base i ∧ adrOf p.frs base i + f.ln ≤ toN p base f.sect.toNat ∧ toN p base f.sect.toNat ≤ 65536 := by
  obtain ⟨hc, _⟩ := layE_zero h
  have hl := lays_of hc
  have hs := hl.sect f (List.mem_of_getElem? hf)
  have h1 := adr_in (base := base) hl hf
  have h2 := sec_row h (s := f.sect.toNat) (by omega) (by omega)
  exact ⟨h1.2.1, by omega, h2.2.2.2.1⟩
theorem com_le {p : Prt} {base i : Nat} {s : ByteArray} {d : Df} (h : layE p base = 0) (hf : findL p.dfs s = (d, 0)) (h3 : d.kind = 3) : secEnd p.frs base 5 ≤ comAdr p base s ∧ comAdr p base s + d.size.toNat ≤ toN p base 5 ∧ 1 ≤ d.size.toNat ∧ toN p base 5 ≤ 65536 := by
  obtain ⟨hc, _⟩ := layE_zero h
  have hin := lay_ns_in hc base hf h3
  obtain ⟨k, hk, e⟩ := List.getElem_of_mem hin
  have hk' : (layEnd p base).ns[k]? = some s := by rw [List.getElem?_eq_getElem hk, e]
  have hl := lay_len hc base
  obtain ⟨c, hcc⟩ : ∃ c, (layEnd p base).cs[k]? = some c := ⟨_, List.getElem?_eq_getElem (by omega)⟩
  rw [comAdr_eq hk' hcc]
  obtain ⟨d', e1, e2, e3, e4, e5, e6, e7, e8, e9, e10, _⟩ := com_row h hk' hcc
  rw [hf] at e1
  injection e1 with e1 _
  subst e1
  have hd : d.comOk := by have := comOk_find (comOk_of hc) s; rw [hf] at this; exact this
  obtain ⟨_, _, _, _, _, a6, _⟩ := com_al hd h3
  have h5 := (sec_row h (s := 5) (by omega) (by omega)).2.2.2.1
  have e11 : toN p base 5 = (layEnd p base).at_ := toN_five p base
  exact ⟨e9, by omega, a6, h5⟩
theorem where_err {p : Prt} (hc : ckPart p = 0) {base : Nat} {s : ByteArray} : (whereA p base s).2 = (findL p.dfs s).2 := by
  unfold whereA
  rw [findP_good hc]
  split
  · rfl
  · rename_i h
    split
    · simp at h; exact h.symm
    · simp at h; exact h.symm
theorem find_err (dfs : List Df) (s : ByteArray) : (findL dfs s).2 = 0 ∨ (findL dfs s).2 = 6 ∨ (findL dfs s).2 = 7 := by
  unfold findL findEnd
  split
  · exact .inr (.inl rfl)
  · split
    · exact .inr (.inr rfl)
    · exact .inl rfl
/-- Where a name stands: in which section. -/
theorem where_in {p : Prt} {base : Nat} {s : ByteArray} (h : layE p base = 0) (h0 : (whereA p base s).2 = 0) :
    ∃ t, 1 ≤ t ∧ t ≤ 5 ∧ (secFrom p.frs base t : Int) ≤ (whereA p base s).1 ∧ (whereA p base s).1 ≤ toN p base t ∧ toN p base t ≤ 65536 := by
  obtain ⟨hc, _⟩ := layE_zero h
  have hl := lays_of hc
  rw [where_err hc] at h0
  obtain ⟨d, hd⟩ : ∃ d, findL p.dfs s = (d, 0) := ⟨_, by rw [← h0]⟩
  unfold whereA
  rw [findP_good hc, hd]
  simp only [ne_eq, not_true_eq_false, if_false]
  split
  · rename_i h3
    have h1 := com_le (i := 0) h hd h3
    have h2 := sec_row h (s := 5) (by omega) (by omega)
    have h4 : secFrom p.frs base 5 ≤ secEnd p.frs base 5 := (secEnd_next hl base 4).2.1
    exact ⟨5, by omega, by omega, by simp only; omega, by simp only; omega, h1.2.2.2⟩
  · rename_i h3
    obtain ⟨f0, f1, f, hf, a0, a1⟩ := (counts_of hc hd).at_ h3
    have hs := hl.sect f (List.mem_of_getElem? hf)
    have h1 := adr_le h hf
    have h2 := (hl.ln0 (List.mem_of_getElem? hf)).2
    exact ⟨f.sect.toNat, by omega, by omega, by simp only; omega, by simp only; omega, h1.2.2⟩
theorem where_bounds {p : Prt} {base : Nat} {s : ByteArray} (h : layE p base = 0) (h0 : (whereA p base s).2 = 0) : 0 ≤ (whereA p base s).1 ∧ (whereA p base s).1 ≤ 65536 := by
  obtain ⟨t, _, _, h1, h2, h3⟩ := where_in h h0
  omega
theorem rel_in {p : Prt} (hc : ckPart p = 0) {i : Nat} {f : Frg} (hf : p.frs[i]? = some f) {r : Rel} (hr : r ∈ f.rs) : (r.name.size = 0 → -1 ≤ r.frag ∧ r.frag < p.frs.length) ∧ r.Fine f.bs.length 0 :=
  ⟨(ckRels_mem (ckFrag_rels (((ok_iff p).1 hc).fr f (List.mem_of_getElem? hf))) r hr).1, (frag_fine hc (List.mem_of_getElem? hf)).rels.mem (Int.le_refl 0) r hr⟩
theorem target_in {p : Prt} {base i : Nat} {f : Frg} (h : layE p base = 0) (hf : p.frs[i]? = some f) {r : Rel} (hr : r ∈ f.rs) :
    ((targetA p base r).2 = 0 ∧ 0 ≤ (targetA p base r).1 ∧ (targetA p base r).1 ≤ 65536) ∨ (targetA p base r).2 = 6 ∨ (targetA p base r).2 = 7 ∨ (targetA p base r).2 = 8 := by
  obtain ⟨hc, _⟩ := layE_zero h
  unfold targetA
  split
  · have h1 := find_err p.dfs r.name
    rw [← where_err (base := base) hc] at h1
    rcases h1 with h1 | h1 | h1
    · exact .inl ⟨h1, where_bounds h h1⟩
    · exact .inr (.inl h1)
    · exact .inr (.inr (.inl h1))
  · split
    · exact .inr (.inr (.inr rfl))
    · rename_i h1 h2
      have h3 := (rel_in hc hf hr).1 (by omega)
      obtain ⟨g, hg⟩ : ∃ g, p.frs[r.frag.toNat]? = some g := ⟨_, List.getElem?_eq_getElem (by omega)⟩
      have h4 := adr_le h hg
      exact .inl ⟨rfl, by simp only; omega, by simp only; omega⟩
/-- What is told of a place. -/
theorem place_err {p : Prt} {base i : Nat} {f : Frg} (h : layE p base = 0) (hf : p.frs[i]? = some f) {r : Rel} (hr : r ∈ f.rs) (h0 : (placeOf p base i r).2 ≠ 0) (h6 : (targetA p base r).2 ≠ 6) (h7 : (targetA p base r).2 ≠ 7) : (placeOf p base i r).2 = 8 ∨ (placeOf p base i r).2 = 9 := by
  obtain ⟨hc, _⟩ := layE_zero h
  have hfi := (rel_in hc hf hr).2
  unfold placeOf at h0 ⊢
  rcases target_in h hf hr with ⟨h1, h2, h3⟩ | h1 | h1 | h1
  · rw [if_pos h1] at h0 ⊢
    have h4 := adr_le h hf
    have h5 := frag_fine hc (List.mem_of_getElem? hf)
    have n5 : f.sect ≠ 5 := fun e => by
      have := (h5.zero e).2.1
      rw [this] at hr
      cases hr
    have h6 := h5.ln n5
    have a0 := hfi.at0
    have a1 := hfi.at1
    have a2 := hfi.add0
    have a3 := hfi.add1
    have hw := hfi.wide
    by_cases hv : (if farOf r.kind then (targetA p base r).1 + r.add - (adrOf p.frs base i + r.at_) else (targetA p base r).1 + r.add) < leastOf r.kind ∨ (if farOf r.kind then (targetA p base r).1 + r.add - (adrOf p.frs base i + r.at_) else (targetA p base r).1 + r.add) > mostOf r.kind
    · rw [valueRes_over hfi.kind (by omega) rfl hv]
      exact .inr rfl
    · rw [valueRes_fits hfi.kind (by omega) rfl hv] at h0
      exact absurd rfl h0
  · exact absurd h1 h6
  · exact absurd h1 h7
  · rw [if_neg (by omega)]
    exact .inl h1

/-! ### where nothing is told -/
theorem no_faults {p : Prt} {base : Nat} {entry : ByteArray} (h : linkFl p base entry = []) :
    faultsP p = [] ∧ ¬ ((whereA p base entry).2 = 7 ∧ entry ∉ (faultsP p).map Flt.name) ∧ ∀ i, i < p.frs.length → (filledP p base i).2 = [] := by
  unfold linkFl linkFl0 at h
  obtain ⟨h1, h2⟩ := List.append_eq_nil_iff.1 h
  obtain ⟨h3, h4⟩ := List.append_eq_nil_iff.1 h1
  refine ⟨by simpa using h3, fun hn => ?_, fun i hi => ?_⟩
  · rw [if_pos hn] at h4
    cases h4
  · have := List.flatMap_eq_nil_iff.1 h2 i (by simpa using hi)
    exact this
theorem find_clean {p : Prt} (hc : ckPart p = 0) (h : faultsP p = []) {s : ByteArray} (hs : s ∈ wantedP p ∨ s ∈ definedP p) : (findL p.dfs s).2 = 0 := by
  unfold faultsP at h
  have h1 := List.filterMap_eq_nil_iff.1 h s (setS_mem.2 (by simpa using hs))
  unfold fltOf at h1
  split at h1
  · assumption
  · cases h1
theorem name_size {s : ByteArray} (h : 0 < s.size) : s ≠ ⟨#[]⟩ := fun e => by
  rw [e] at h
  exact absurd h (by decide)
theorem wanted_has {p : Prt} {i : Nat} {f : Frg} (hf : p.frs[i]? = some f) {r : Rel} (hr : r ∈ f.rs) (hn : 0 < r.name.size) : r.name ∈ wantedP p := by
  unfold wantedP
  refine setS_mem.2 (List.mem_flatMap.2 ⟨f, List.mem_of_getElem? hf, ?_⟩)
  unfold wantedF
  exact List.mem_map.2 ⟨r, List.mem_filter.2 ⟨hr, decide_eq_true (by omega)⟩, rfl⟩
theorem target_clean {p : Prt} {base i : Nat} {f : Frg} (hc : ckPart p = 0) (h : faultsP p = []) (hf : p.frs[i]? = some f) {r : Rel} (hr : r ∈ f.rs) : (targetA p base r).2 ≠ 6 ∧ (targetA p base r).2 ≠ 7 := by
  unfold targetA
  split
  · rename_i hn
    rw [where_err hc, find_clean hc h (.inl (wanted_has hf hr hn))]
    exact ⟨by omega, by omega⟩
  · split
    · exact ⟨by simp only; omega, by simp only; omega⟩
    · exact ⟨by simp only; omega, by simp only; omega⟩
theorem find_undef {p : Prt} {s : ByteArray} (h : s ∉ definedP p) : (findL p.dfs s) = (.zero, 7) := by
  have h1 : ∀ d ∈ p.dfs, d.name ≠ s := fun d hd hn => h (setS_mem.2 (List.mem_map.2 ⟨d, hd, hn⟩))
  have h2 : ∀ (l : List Df) (st : Df × Bool), (∀ d ∈ l, d.name ≠ s) → l.foldl (findStep s) st = st := by
    intro l
    induction l with
    | nil => intro st _; rfl
    | cons d r ih =>
      intro st hl
      rw [List.foldl_cons]
      have e : findStep s st d = st := by
        unfold findStep
        split
        · rfl
        · rw [if_pos (hl d (by simp))]
      rw [e]
      exact ih st (fun d hd => hl d (by simp [hd]))
  unfold findL findSt
  rw [h2 p.dfs _ h1]
  rfl
theorem entry_clean {p : Prt} {base : Nat} {entry : ByteArray} (hc : ckPart p = 0) (h : linkFl p base entry = []) : (whereA p base entry).2 = 0 := by
  obtain ⟨h1, h2, _⟩ := no_faults h
  rw [where_err hc] at h2 ⊢
  by_cases hd : entry ∈ definedP p
  · exact find_clean hc h1 (.inr hd)
  · rw [find_undef hd] at h2
    rw [h1] at h2
    simp at h2
/-- Each place has its number; all else is as it was. -/
theorem filled_clean {p : Prt} {base i : Nat} {f : Frg} {entry : ByteArray} (hc : ckPart p = 0) (h : linkFl p base entry = []) (hf : p.frs[i]? = some f) :
    (∀ r ∈ f.rs, (targetA p base r).2 = 0 ∧ (valueRes r.kind (adrOf p.frs base i + r.at_) (targetA p base r).1 r.add).2 = 0 ∧ getRes (filledP p base i).1 r.at_ r.kind = ((valueRes r.kind (adrOf p.frs base i + r.at_) (targetA p base r).1 r.add).1, 0)) ∧
    ∀ q : Nat, (∀ r ∈ f.rs, (q : Int) < r.at_ ∨ r.at_ + wideOf r.kind ≤ q) → (filledP p base i).1[q]? = f.bs[q]? := by
  have hfi := frag_fine hc (List.mem_of_getElem? hf)
  have hrf := fun r hr => hfi.rels.mem (Int.le_refl 0) r hr
  obtain ⟨h1, _, h3⟩ := no_faults h
  have h4 := h3 i (List.getElem?_eq_some_iff.1 hf).1
  have hlen := filled_len hc (base := base) hf
  rw [filledP_eq hf] at h4 hlen ⊢
  unfold filledAt at h4 hlen ⊢
  obtain ⟨h5, h6⟩ := fold_clean (nb := f.bs.length) (by have := hfi.len; omega) f.rs f.bs hrf rfl (fun r hr => target_clean hc h1 hf hr) h4
  rw [h6] at hlen ⊢
  constructor
  · intro r hr
    obtain ⟨e1, e2, e3⟩ := place_ok (h5 r hr)
    have hri := hrf r hr
    refine ⟨e1, e2, ?_⟩
    rw [getRes_fits hri.kind (by rw [hlen]; have := hfi.len; omega) (by have := hri.at0; omega) (by rw [hlen]; exact hri.at1)]
    rw [fillAll_get _ f.rs 0 f.bs (Int.le_refl 0) hfi.rels rfl (fun x hx => place_in (h5 x hx)) r hr, e3]
  · intro q hq
    exact fillAll_else _ f.rs 0 f.bs (Int.le_refl 0) hfi.rels q hq

/-! ### bytes laid over bytes -/
theorem layOver_len {b c : List UInt8} {k : Nat} (h : k + c.length ≤ b.length) : (layOver b k c).length = b.length := by
  unfold layOver
  simp only [List.length_append, List.length_take, List.length_drop]
  omega
theorem layOver_get {b c : List UInt8} {k j : Nat} (h : k + c.length ≤ b.length) : (layOver b k c)[j]? = if j < k then b[j]? else if j < k + c.length then c[j - k]? else b[j]? := by
  unfold layOver
  have e : c.take (b.length - k) = c := List.take_of_length_le (by omega)
  rw [e, List.append_assoc]
  split
  · rename_i h1
    rw [List.getElem?_append_left (by simp only [List.length_take]; omega), List.getElem?_take_of_lt h1]
  · rename_i h1
    rw [List.getElem?_append_right (by simp only [List.length_take]; omega), List.length_take, Nat.min_eq_left (by omega)]
    split
    · rw [List.getElem?_append_left (by omega)]
    · rw [List.getElem?_append_right (by omega), List.getElem?_drop]
      congr 1
      omega

section
variable {p : Prt} {base : Nat} {sects : List Int} {at_ end_ : Nat}
theorem segStep_at {n : Nat} {g : Frg} (hg : p.frs[n]? = some g) (b : List UInt8) : segStep p base at_ sects b n = if g.sect ≠ 5 ∧ g.sect ∈ sects then layOver b (adrOf p.frs base n - at_) (filledP p base n).1 else b := by unfold segStep; rw [hg]
/-- A fragment that goes into a segment. -/
def Into (p : Prt) (sects : List Int) (i : Nat) (f : Frg) : Prop := p.frs[i]? = some f ∧ f.sect ≠ 5 ∧ f.sect ∈ sects
theorem seg_in (hc : ckPart p = 0) (hin : ∀ i f, Into p sects i f → at_ ≤ adrOf p.frs base i ∧ adrOf p.frs base i + f.ln ≤ end_) : ∀ n, n ≤ p.frs.length → (segBytes p base at_ end_ sects n).length = end_ - at_
  | 0, _ => by simp [segBytes]
  | n + 1, hn => by
    have ih := seg_in hc hin n (by omega)
    unfold segBytes at ih ⊢
    rw [List.range_succ, List.foldl_append]
    obtain ⟨f, hf⟩ : ∃ f, p.frs[n]? = some f := ⟨_, List.getElem?_eq_getElem (by omega)⟩
    show (segStep p base at_ sects _ n).length = _
    rw [segStep_at hf]
    split
    · rename_i h1
      have h2 := hin n f ⟨hf, h1⟩
      have h3 := (frag_fine hc (List.mem_of_getElem? hf)).ln h1.1
      have h4 := filled_len hc (base := base) hf
      rw [layOver_len (by rw [ih]; omega)]
      exact ih
    · exact ih
/-- Two fragments: apart, or the same bytes in the same place. -/
theorem two_apart {entry : ByteArray} (h : layE p base = 0) {i k : Nat} {f g : Frg} (hf : p.frs[i]? = some f) (hg : p.frs[k]? = some g) (h5 : f.sect ≠ 5) (g5 : g.sect ≠ 5) (hik : i ≠ k) :
    adrOf p.frs base k + g.ln ≤ adrOf p.frs base i ∨ adrOf p.frs base i + f.ln ≤ adrOf p.frs base k ∨ (adrOf p.frs base i = adrOf p.frs base k ∧ (filledP p base i).1 = (filledP p base k).1) := by
  obtain ⟨hc, _⟩ := layE_zero h
  have hl := lays_of hc
  have a1 := adr_in (base := base) hl hf
  have a2 := adr_in (base := base) hl hg
  have s1 := hl.sect f (List.mem_of_getElem? hf)
  have s2 := hl.sect g (List.mem_of_getElem? hg)
  have mono : ∀ d s, secEnd p.frs base s ≤ secFrom p.frs base (s + d + 1) := by
    intro d
    induction d with
    | zero => intro s; exact (secEnd_next hl base s).1
    | succ d ih =>
      intro s
      have h1 := ih s
      have h2 := secEnd_next hl base (s + d)
      have h3 := (secEnd_next hl base (s + d + 1)).1
      have h4 := (secEnd_next hl base (s + d)).2.1
      rw [show s + (d + 1) + 1 = s + d + 1 + 1 by omega]
      omega
  rcases Int.lt_trichotomy f.sect g.sect with hs | hs | hs
  · refine .inr (.inl ?_)
    have := mono (g.sect.toNat - f.sect.toNat - 1) f.sect.toNat
    rw [show f.sect.toNat + (g.sect.toNat - f.sect.toNat - 1) + 1 = g.sect.toNat by omega] at this
    omega
  · rcases Nat.lt_trichotomy (firstAt p.frs k) (firstAt p.frs i) with hk | hk | hk
    · exact .inl (adr_apart hl hf hg hs.symm hk)
    · refine .inr (.inr ⟨(adr_same hf hg hs.symm hk).symm, ?_⟩)
      by_cases h3 : f.sect = 3
      · have t1 := (frag_fine hc (List.mem_of_getElem? hf)).text h3
        have t2 := (frag_fine hc (List.mem_of_getElem? hg)).text (by omega)
        rw [filled_none hf t1, filled_none hg t2]
        simp only
        obtain ⟨x, hx, _, _, hx3, _⟩ := first_get hf
        obtain ⟨y, hy, _, _, hy3, _⟩ := first_get hg
        rw [hk] at hy
        rw [hx] at hy
        injection hy with hy
        rw [← hx3 h3, ← hy3 (by omega), hy]
      · rw [firstAt_other hf h3, firstAt_other hg (by omega)] at hk
        exact absurd hk.symm hik
    · exact .inr (.inl (adr_apart hl hg hf hs hk))
  · refine .inl ?_
    have := mono (f.sect.toNat - g.sect.toNat - 1) g.sect.toNat
    rw [show g.sect.toNat + (f.sect.toNat - g.sect.toNat - 1) + 1 = f.sect.toNat by omega] at this
    omega
/-- Each fragment's bytes are where it stands. -/
theorem seg_at (h : layE p base = 0) (hin : ∀ i f, Into p sects i f → at_ ≤ adrOf p.frs base i ∧ adrOf p.frs base i + f.ln ≤ end_) : ∀ n, n ≤ p.frs.length → ∀ i f, i < n → Into p sects i f →
    ∀ k, k < f.bs.length → (segBytes p base at_ end_ sects n)[adrOf p.frs base i - at_ + k]? = (filledP p base i).1[k]?
  | 0, _, _, _, hi, _, _, _ => absurd hi (Nat.not_lt_zero _)
  | n + 1, hn, i, f, hi, hf, k, hk => by
    obtain ⟨hc, _⟩ := layE_zero h
    have hlen := seg_in (base := base) (end_ := end_) (at_ := at_) hc hin n (by omega)
    have ih := seg_at h hin n (by omega) i f
    have hfi := hin i f hf
    have hfl := (frag_fine hc (List.mem_of_getElem? hf.1)).ln hf.2.1
    unfold segBytes at ih hlen ⊢
    rw [List.range_succ, List.foldl_append]
    obtain ⟨g, hg⟩ : ∃ g, p.frs[n]? = some g := ⟨_, List.getElem?_eq_getElem (by omega)⟩
    show (segStep p base at_ sects _ n)[_]? = _
    rw [segStep_at hg]
    have flen := filled_len hc (base := base) hf.1
    split
    · rename_i h1
      have h2 := hin n g ⟨hg, h1⟩
      have h3 := (frag_fine hc (List.mem_of_getElem? hg)).ln h1.1
      have h4 := filled_len hc (base := base) hg
      rw [layOver_get (by rw [hlen]; omega)]
      by_cases hin' : i = n
      · subst hin'
        rw [if_neg (by omega), if_pos (by rw [hf.1] at hg; injection hg with hg; subst hg; omega)]
        congr 1
        omega
      · rcases two_apart (entry := ⟨#[]⟩) h hf.1 hg hf.2.1 h1.1 hin' with ha | ha | ⟨ha, hb⟩
        · rw [if_neg (by omega), if_neg (by omega)]
          exact ih (by omega) hf k hk
        · rw [if_pos (by omega)]
          exact ih (by omega) hf k hk
        · rw [← ha, if_neg (by omega), if_pos (by rw [← hb]; omega), hb]
          congr 1
          omega
    · rename_i h1
      have : i ≠ n := fun e => by
        subst e
        rw [hf.1] at hg
        injection hg with hg
        subst hg
        exact h1 hf.2
      exact ih (by omega) hf k hk
end
end Go.Proofs.Ytbhjdinjoonngaa
