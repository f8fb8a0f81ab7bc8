/- Parts as plain data: what obj.Check says of them; how they lie in memory. No program in sight. -/
import Derived.Test.YtbonpilpmjghbaaMemT
import Derived.Test.YtbonpilpmjghbaaFillD
set_option linter.all false
namespace Go.Proofs.Ytbonpilpmjghbaa
open Go.RowKit

theorem bytes_ext {a b : ByteArray} (h : a.data.toList = b.data.toList) : a = b := by
  obtain ⟨⟨x⟩⟩ := a
  obtain ⟨⟨y⟩⟩ := b
  simp at h
  rw [h]
theorem bytes_beq_iff (a b : ByteArray) : (a == b) = true ↔ a = b := by
  obtain ⟨x⟩ := a
  obtain ⟨y⟩ := b
  constructor
  · intro h
    have e : x = y := by simpa using (show (x == y) = true from h)
    rw [e]
  · intro h
    cases h
    show (x == x) = true
    simp
instance lawBytes : LawfulBEq ByteArray where
  eq_of_beq h := (bytes_beq_iff _ _).1 h
  rfl := (bytes_beq_iff _ _).2 rfl
instance decBytes : DecidableEq ByteArray := fun a b => decidable_of_iff (a.data.toList = b.data.toList) ⟨bytes_ext, fun h => by rw [h]⟩
theorem toList_nil {s : ByteArray} (h : s.size = 0) : s.toList = [] := by
  rw [ByteArray.toList_eq]
  exact List.eq_nil_of_length_eq_zero (by simpa using h)
theorem toList_some {s : ByteArray} (h : 0 < s.size) : (!s.toList.isEmpty) = true := by
  rw [ByteArray.toList_eq]
  rcases hl : s.data.toList with _ | ⟨a, r⟩
  · have : s.data.toList.length = 0 := by rw [hl]; rfl
    have h' : s.data.size = s.size := rfl
    rw [Array.length_toList] at this
    omega
  · rfl
theorem toList_one {s : ByteArray} (h : 0 < s.size) : s.toList.isEmpty = false := by
  have := toList_some h
  simpa using this

structure Rel where
  at_ : Int
  kind : Int
  name : ByteArray
  frag : Int
  add : Int
structure Frg where
  sect : Int
  align : Int
  group : ByteArray
  bs : List UInt8
  size : Int
  rs : List Rel
structure Df where
  name : ByteArray
  kind : Int
  frag : Int
  at_ : Int
  size : Int
  align : Int
structure Prt where
  frs : List Frg
  dfs : List Df

def Rel.cells (r : Rel) : List Value := [.int .i64 r.at_, .int .i64 r.kind, .string r.name, .int .i64 r.frag, .int .i64 r.add]
def relsV (l : List Rel) : List Value := l.flatMap Rel.cells
def Df.cells (d : Df) : List Value := [.string d.name, .int .i64 d.kind, .int .i64 d.frag, .int .i64 d.at_, .int .i64 d.size, .int .i64 d.align]
def dfsV (l : List Df) : List Value := l.flatMap Df.cells
theorem Rel.cells_len (r : Rel) : r.cells.length = 5 := rfl
theorem Df.cells_len (r : Df) : r.cells.length = 6 := rfl

/-- A fragment, and where its bytes and its places lie: no part of what it says. -/
structure FgM where
  f : Frg
  ba : Option Addr
  bc : Nat
  ra : Option Addr
  rc : Nat
def FgM.byV (x : FgM) : Value := .slice x.ba x.f.bs.length x.bc
def FgM.reV (x : FgM) : Value := .slice x.ra x.f.rs.length x.rc
def FgM.cells (x : FgM) : List Value := [.int .i64 x.f.sect, .int .i64 x.f.align, .string x.f.group, x.byV, .int .i64 x.f.size, x.reV]
def fgsV (l : List FgM) : List Value := l.flatMap FgM.cells
theorem FgM.cells_len (x : FgM) : x.cells.length = 6 := rfl
structure FgM.Good (w : World) (B : Nat) (x : FgM) : Prop where
  by_ : Reads w B 1 x.ba x.f.bs.length (bytesV x.f.bs)
  re : Reads w B 5 x.ra x.f.rs.length (relsV x.f.rs)
  bm : x.f.bs.length ≤ 9223372036854775807
  rm : x.f.rs.length ≤ 9223372036854775807

/-- A part, and where it lies. -/
structure PtM where
  frs : List FgM
  dfs : List Df
  fa : Option Addr
  fc : Nat
  da : Option Addr
  dc : Nat
def PtM.er (p : PtM) : Prt := ⟨p.frs.map FgM.f, p.dfs⟩
def PtM.frV (p : PtM) : Value := .slice p.fa p.frs.length p.fc
def PtM.dfV (p : PtM) : Value := .slice p.da p.dfs.length p.dc
def PtM.cells (p : PtM) : List Value := [p.frV, p.dfV]
def PtM.val (p : PtM) : Value := .agg #[p.frV, p.dfV]
structure PtM.At (w : World) (B : Nat) (p : PtM) : Prop where
  fr : Reads w B 6 p.fa p.frs.length (fgsV p.frs)
  each : ∀ x ∈ p.frs, x.Good w B
  df : Reads w B 6 p.da p.dfs.length (dfsV p.dfs)
  fm : p.frs.length ≤ 9223372036854775807
  dm : p.dfs.length ≤ 9223372036854775807

section
variable {w w' : World} {B B' : Nat} {x : FgM} {p : PtM}
theorem FgM.Good.keep (h : x.Good w B) (hb : Below B w w') (hB : B ≤ B') : x.Good w' B' := ⟨(h.by_.below hb).more hB, (h.re.below hb).more hB, h.bm, h.rm⟩
theorem PtM.At.keep (h : p.At w B) (hb : Below B w w') (hB : B ≤ B') : p.At w' B' :=
  ⟨(h.fr.below hb).more hB, fun x hx => (h.each x hx).keep hb hB, (h.df.below hb).more hB, h.fm, h.dm⟩
theorem PtM.At.all (h : p.At w w.heap.size) (hb : Below w.heap.size w w') : p.At w' w'.heap.size := h.keep hb hb.size
theorem FgM.Good.all (h : x.Good w w.heap.size) (hb : Below w.heap.size w w') : x.Good w' w'.heap.size := h.keep hb hb.size
end

theorem cells_get {α : Type} {cells : α → List Value} {k : Nat} (hlen : ∀ a, (cells a).length = k) {w : World} {B : Nat} {A : Option Addr} {l : List α} (h : Reads w B k A l.length (l.flatMap cells)) {i : Nat} {a : α} (ha : l[i]? = some a) :
    ∃ b off, A = some ⟨b, off, none⟩ ∧ b < B ∧ ∀ j u, (cells a)[j]? = some u → w.cell? ⟨b, off + i * k + j, none⟩ = some u := by
  obtain ⟨hi, _⟩ := List.getElem?_eq_some_iff.1 ha
  obtain ⟨b, off, e, hb, hc⟩ := h.2 (by omega)
  refine ⟨b, off, e, hb, fun j u hu => ?_⟩
  have hj : j < k := by rw [← hlen a]; exact (List.getElem?_eq_some_iff.1 hu).1
  rw [Nat.add_assoc]
  exact hc _ _ ((flatMap_get hlen l i j a hj ha).trans hu)
theorem fg_get {w : World} {B : Nat} {A : Option Addr} {l : List FgM} (h : Reads w B 6 A l.length (fgsV l)) {i : Nat} {x : FgM} (hx : l[i]? = some x) :
    ∃ b off, A = some ⟨b, off, none⟩ ∧ b < B ∧ w.cell? ⟨b, off + i * 6, none⟩ = some (.int .i64 x.f.sect) ∧ w.cell? ⟨b, off + i * 6 + 1, none⟩ = some (.int .i64 x.f.align) ∧ w.cell? ⟨b, off + i * 6 + 2, none⟩ = some (.string x.f.group) ∧
      w.cell? ⟨b, off + i * 6 + 3, none⟩ = some (.slice x.ba x.f.bs.length x.bc) ∧ w.cell? ⟨b, off + i * 6 + 4, none⟩ = some (.int .i64 x.f.size) ∧ w.cell? ⟨b, off + i * 6 + 5, none⟩ = some (.slice x.ra x.f.rs.length x.rc) := by
  obtain ⟨b, off, e, hb, hc⟩ := cells_get FgM.cells_len h hx
  exact ⟨b, off, e, hb, hc 0 _ rfl, hc 1 _ rfl, hc 2 _ rfl, hc 3 _ rfl, hc 4 _ rfl, hc 5 _ rfl⟩
theorem df_get {w : World} {B : Nat} {A : Option Addr} {l : List Df} (h : Reads w B 6 A l.length (dfsV l)) {i : Nat} {x : Df} (hx : l[i]? = some x) :
    ∃ b off, A = some ⟨b, off, none⟩ ∧ b < B ∧ w.cell? ⟨b, off + i * 6, none⟩ = some (.string x.name) ∧ w.cell? ⟨b, off + i * 6 + 1, none⟩ = some (.int .i64 x.kind) ∧ w.cell? ⟨b, off + i * 6 + 2, none⟩ = some (.int .i64 x.frag) ∧
      w.cell? ⟨b, off + i * 6 + 3, none⟩ = some (.int .i64 x.at_) ∧ w.cell? ⟨b, off + i * 6 + 4, none⟩ = some (.int .i64 x.size) ∧ w.cell? ⟨b, off + i * 6 + 5, none⟩ = some (.int .i64 x.align) := by
  obtain ⟨b, off, e, hb, hc⟩ := cells_get Df.cells_len h hx
  exact ⟨b, off, e, hb, hc 0 _ rfl, hc 1 _ rfl, hc 2 _ rfl, hc 3 _ rfl, hc 4 _ rfl, hc 5 _ rfl⟩
theorem rel_get {w : World} {B : Nat} {A : Option Addr} {l : List Rel} (h : Reads w B 5 A l.length (relsV l)) {i : Nat} {x : Rel} (hx : l[i]? = some x) :
    ∃ b off, A = some ⟨b, off, none⟩ ∧ b < B ∧ w.cell? ⟨b, off + i * 5, none⟩ = some (.int .i64 x.at_) ∧ w.cell? ⟨b, off + i * 5 + 1, none⟩ = some (.int .i64 x.kind) ∧ w.cell? ⟨b, off + i * 5 + 2, none⟩ = some (.string x.name) ∧
      w.cell? ⟨b, off + i * 5 + 3, none⟩ = some (.int .i64 x.frag) ∧ w.cell? ⟨b, off + i * 5 + 4, none⟩ = some (.int .i64 x.add) := by
  obtain ⟨b, off, e, hb, hc⟩ := cells_get Rel.cells_len h hx
  exact ⟨b, off, e, hb, hc 0 _ rfl, hc 1 _ rfl, hc 2 _ rfl, hc 3 _ rfl, hc 4 _ rfl⟩

/-- Whether a byte may stand in a name. -/
def nameC (c : UInt8) : Bool := (decide (97 ≤ (c.toNat : Int)) && decide ((c.toNat : Int) ≤ 122)) || (decide (48 ≤ (c.toNat : Int)) && decide ((c.toNat : Int) ≤ 57)) || ((c.toNat : Int) == 95)
theorem nameC_iff (c : UInt8) : nameC c = true ↔ (97 ≤ (c.toNat : Int) ∧ (c.toNat : Int) ≤ 122) ∨ (48 ≤ (c.toNat : Int) ∧ (c.toNat : Int) ≤ 57) ∨ (c.toNat : Int) = 95 := by
  unfold nameC; simp only [Bool.or_eq_true, Bool.and_eq_true, decide_eq_true_eq, beq_iff_eq, or_assoc]
theorem nameC_yes {c : UInt8} (h : (97 ≤ (c.toNat : Int) ∧ (c.toNat : Int) ≤ 122) ∨ (48 ≤ (c.toNat : Int) ∧ (c.toNat : Int) ≤ 57) ∨ (c.toNat : Int) = 95) : nameC c = true := (nameC_iff c).2 h
theorem nameC_no {c : UInt8} (h : ¬ ((97 ≤ (c.toNat : Int) ∧ (c.toNat : Int) ≤ 122) ∨ (48 ≤ (c.toNat : Int) ∧ (c.toNat : Int) ≤ 57) ∨ (c.toNat : Int) = 95)) : nameC c = false := by
  rcases hc : nameC c with _ | _
  · rfl
  · exact absurd ((nameC_iff c).1 hc) h
/-- Whether a text is a name. -/
def nameB (s : ByteArray) : Bool := decide (0 < s.size) && decide (s.size ≤ 8) && s.data.toList.all nameC
def alignB (n : Int) : Bool := n == 1 || n == 2 || n == 4 || n == 8
def Frg.long (f : Frg) : Int := if f.sect = 5 then f.size else f.bs.length

def ckRel (many nb last : Int) (r : Rel) : Int :=
  if wideOf r.kind = 0 ∨ r.at_ < last ∨ nb - wideOf r.kind < r.at_ ∨ r.add < -10000 ∨ 10000 < r.add then 3
  else if r.name.size = 0 then (if r.frag < -1 ∨ many ≤ r.frag then 5 else 0)
  else if nameB r.name = false ∨ r.frag ≠ 0 then 1 else 0
def ckRels (many nb : Int) : Int → List Rel → Int
  | _, [] => 0
  | last, r :: rs => if ckRel many nb last r ≠ 0 then ckRel many nb last r else ckRels many nb (r.at_ + wideOf r.kind) rs
def Frg.formed (f : Frg) : Prop := ¬ ((f.sect = 5 ∧ (0 < f.bs.length ∨ 0 < f.rs.length ∨ f.size < 0 ∨ 64 < f.size)) ∨ (f.sect ≠ 5 ∧ f.size ≠ 0) ∨ (f.sect = 3 ∧ 0 < f.rs.length))
instance (f : Frg) : Decidable f.formed := by unfold Frg.formed; exact inferInstance
def ckFrag (many : Int) (f : Frg) : Int :=
  if f.sect < 1 ∨ 5 < f.sect ∨ alignB f.align = false then 3
  else if f.group.size ≠ 0 ∧ nameB f.group = false then 1
  else if 64 < f.bs.length ∨ 8 < f.rs.length then 2
  else if ¬ f.formed then 4
  else ckRels many f.bs.length 0 f.rs
def ckDef (frs : List Frg) (d : Df) : Int :=
  if nameB d.name = false then 1
  else if d.kind = 1 ∨ d.kind = 2 then
    (if d.frag < 0 ∨ (frs.length : Int) ≤ d.frag then 5 else
      match frs[d.frag.toNat]? with
      | some f => if d.at_ < 0 ∨ f.long < d.at_ ∨ d.size ≠ 0 ∨ d.align ≠ 0 then 3 else 0
      | none => 5)
  else if d.kind = 3 then (if d.frag ≠ 0 ∨ d.at_ ≠ 0 ∨ d.size < 1 ∨ 64 < d.size ∨ alignB d.align = false then 3 else 0)
  else 4
def firstBad : List Int → Int
  | [] => 0
  | e :: r => if e ≠ 0 then e else firstBad r
def ckPart (p : Prt) : Int :=
  if 60 < p.frs.length ∨ 60 < p.dfs.length then 2
  else if firstBad (p.frs.map (ckFrag p.frs.length)) ≠ 0 then firstBad (p.frs.map (ckFrag p.frs.length))
  else firstBad (p.dfs.map (ckDef p.frs))

theorem firstBad_drop {l : List Int} {k : Nat} {e : Int} (h : l[k]? = some e) (he : e ≠ 0) : firstBad (l.drop k) = e := by
  obtain ⟨hk, hv⟩ := List.getElem?_eq_some_iff.1 h
  rw [List.drop_eq_getElem_cons hk, hv, firstBad, if_pos he]
theorem firstBad_next {l : List Int} {k : Nat} (h : l[k]? = some 0) : firstBad (l.drop k) = firstBad (l.drop (k + 1)) := by
  obtain ⟨hk, hv⟩ := List.getElem?_eq_some_iff.1 h
  rw [List.drop_eq_getElem_cons hk, hv, firstBad, if_neg (by simp)]
theorem firstBad_end {l : List Int} {k : Nat} (h : l.length ≤ k) : firstBad (l.drop k) = 0 := by
  rw [List.drop_of_length_le h, firstBad]
theorem firstBad_zero {l : List Int} : firstBad l = 0 ↔ ∀ e ∈ l, e = 0 := by
  induction l with
  | nil => simp [firstBad]
  | cons a r ih =>
    rw [firstBad]
    constructor
    · intro h
      split at h
      · rename_i h1; exact absurd h h1
      · rename_i h1
        intro e he
        rcases List.mem_cons.1 he with rfl | he
        · simpa using h1
        · exact ih.1 h e he
    · intro h
      have := h a (by simp)
      rw [if_neg (by simp [this])]
      exact ih.2 fun e he => h e (by simp [he])
end Go.Proofs.Ytbonpilpmjghbaa
