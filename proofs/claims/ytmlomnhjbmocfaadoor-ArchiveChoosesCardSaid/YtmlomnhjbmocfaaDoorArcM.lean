/- archive.Choose: what lies in memory: items; what two sets of names leave as it was. -/
import Derived.Test.YtmlomnhjbmocfaaDoorArcD
import Derived.Test.YtmlomnhjbmocfaaDoorB1
import Derived.Test.YtmlomnhjbmocfaaDoorEvalX
set_option linter.all false
namespace Go.Proofs.YtmlomnhjbmocfaaDoor
open Go.RowKit

theorem strsV_get {l : List ByteArray} {k : Nat} {s : ByteArray} (h : l[k]? = some s) : (strsV l)[k]? = some (.string s) := by unfold strsV; rw [List.getElem?_map, h]; rfl
/-- An item, and where it lies. -/
structure ItM where
  arch : Bool
  ps : List PtM
  pa : Option Addr
  pc : Nat
def ItM.er (x : ItM) : Itm := ⟨x.arch, x.ps.map PtM.er⟩
def ItM.cells (x : ItM) : List Value := [.bool x.arch, .slice x.pa x.ps.length x.pc]
def itsV (l : List ItM) : List Value := l.flatMap ItM.cells
structure ItM.Good (w : World) (B : Nat) (x : ItM) : Prop where
  ps : PtsAt w B x.pa x.ps
  pm : x.ps.length ≤ 9223372036854775807
structure ItsAt (w : World) (B : Nat) (A : Option Addr) (l : List ItM) : Prop where
  row : Reads w B 2 A l.length (itsV l)
  each : ∀ x ∈ l, x.Good w B
theorem ItM.Good.keep {w w' : World} {B B' : Nat} {x : ItM} (h : x.Good w B) (hb : Below B w w') (hB : B ≤ B') : x.Good w' B' := ⟨h.ps.keep hb hB, h.pm⟩
theorem ItsAt.keep {w w' : World} {B B' : Nat} {A : Option Addr} {l : List ItM} (h : ItsAt w B A l) (hb : Below B w w') (hB : B ≤ B') : ItsAt w' B' A l := ⟨(h.row.below hb).more hB, fun x hx => (h.each x hx).keep hb hB⟩
theorem ItsAt.all {w w' : World} {A : Option Addr} {l : List ItM} (h : ItsAt w w.heap.size A l) (hb : Below w.heap.size w w') : ItsAt w' w'.heap.size A l := h.keep hb hb.size
theorem it_get {w : World} {B : Nat} {A : Option Addr} {l : List ItM} (h : Reads w B 2 A l.length (itsV l)) {i : Nat} {x : ItM} (hx : l[i]? = some x) :
    ∃ b off, A = some ⟨b, off, none⟩ ∧ b < B ∧ w.cell? ⟨b, off + i * 2, none⟩ = some (.bool x.arch) ∧ w.cell? ⟨b, off + i * 2 + 1, none⟩ = some (.slice x.pa x.ps.length x.pc) := by
  obtain ⟨b, off, e, hb, hc⟩ := cells_get (cells := ItM.cells) (fun _ => rfl) h hx
  exact ⟨b, off, e, hb, hc 0 _ rfl, hc 1 _ rfl⟩

section
variable {w w' : World} {g n : Nat} {S : List ByteArray}
theorem SetIs.isMap (h : SetIs w g n S) : ∃ es c, w.heap[g]? = some (.map es c) := let ⟨_, ⟨es, c, hb, _⟩, _⟩ := h; ⟨es, c, hb⟩
theorem SetIs.ne_own (h : SetIs w g n S) {base size m : Nat} {e : TypeId} {v : Value} {xs : List Value} (ho : w.ownsRow base e size v m xs) : v.ownBlock ≠ some g := by
  obtain ⟨es, c, hm⟩ := h.isMap
  rcases ho.2 with ⟨rfl, _⟩ | ⟨g', cap, cur, rfl, _, hh, _⟩
  · simp [Value.ownBlock]
  · intro he
    have : g' = g := by simpa [Value.ownBlock] using he
    subst this
    rw [hm] at hh
    cases hh
theorem SetIs.ne_blk (h : SetIs w g n S) {g' : Nat} {t : TypeId} {cs : Array Value} (hb : Blk w g' t cs) : g' ≠ g := by
  obtain ⟨es, c, hm⟩ := h.isMap
  rintro rfl
  unfold Blk at hb
  rw [hm] at hb
  cases hb
theorem SetIs.own (h : SetIs w g n S) {base size m : Nat} {e : TypeId} {v : Value} {xs : List Value} (ho : w.ownsRow base e size v m xs) (hg : w.grownBy w' (some g)) : w'.ownsRow base e size v m xs := ho.kept hg (.inr (h.ne_own ho))
theorem SetIs.fgOwn (h : SetIs w g n S) {base : Nat} {x : FgM} (ho : x.Own w base) (hg : w.grownBy w' (some g)) : x.Own w' base := ⟨h.own ho.by_ hg, h.own ho.re hg⟩
theorem SetIs.ptOwn (h : SetIs w g n S) {base : Nat} {p : PtM} (ho : p.Own w base) (hg : w.grownBy w' (some g)) : p.Own w' base := ⟨h.own ho.fr hg, h.own ho.df hg, fun x hx => h.fgOwn (ho.each x hx) hg, ho.apart⟩
theorem SetIs.ev (h : SetIs w g n S) {w0 : World} {base : Nat} {z : Value} {qs : List PtM} (he : EV w0 w base z qs) (hB : base ≤ g) (hg : w.grownBy w' (some g)) : EV w0 w' base z qs :=
  ⟨h.own he.hz hg, fun q hq => h.ptOwn (he.each q hq) hg, he.hB.grown hg he.hb (fun g' hg' => by injection hg' with hg'; omega), Nat.le_trans he.hb hg.size⟩
theorem SetIs.row (h : SetIs w g n S) {base size m : Nat} {e : TypeId} {v : Value} {xs : List Value} (ho : w.ownsRow base e size v m xs) (hg : w.grownBy w' v.ownBlock) : SetIs w' g n S := h.kept hg (Ne.symm (h.ne_own ho))
theorem SetIs.set_ (h : SetIs w g n S) {g' : Nat} {t : TypeId} {cs : Array Value} (hb : Blk w g' t cs) (j : Nat) (u : Value) : SetIs (w.setCell ⟨g', j, none⟩ u) g n S :=
  h.kept (row := some g') ⟨rfl, rfl, rfl, by simp [World.setCell], fun i _ hne => Below.heap_setCell w _ u i (fun e => hne (by rw [e]))⟩ (fun e => h.ne_blk hb (by injection e with e; exact e.symm))
theorem SetIs.blk (h : SetIs w g n S) {g' : Nat} {t : TypeId} {cs : Array Value} (hb : Blk w g' t cs) (hg : w.grownBy w' (some g)) : Blk w' g' t cs := hb.grown hg (fun e => h.ne_blk hb (by injection e))
end

/-- Where some parts are taken: two sets of names, in a state of the call's own. -/
structure StIs (w : World) (gS gW gD nW nD : Nat) (first : List ByteArray) (out : List Prt) : Prop where
  st : Blk w gS 83 #[.map (some gW), .map (some gD)]
  ne : gW ≠ gD
  hw : SetIs w gW nW (wantS first out)
  hd : SetIs w gD nD (haveS out)
section
variable {w w' : World} {gS gW gD nW nD : Nat} {first : List ByteArray} {out : List Prt}
theorem StIs.all (h : StIs w gS gW gD nW nD first out) (hb : Below w.heap.size w w') : StIs w' gS gW gD nW nD first out := ⟨h.st.all hb, h.ne, h.hw.all hb, h.hd.all hb⟩
theorem StIs.alloc (h : StIs w gS gW gD nW nD first out) (o : Obj) : StIs (w.alloc o) gS gW gD nW nD first out := h.all ((Below.refl _ _).alloc (Nat.le_refl _) _)
theorem StIs.drew (h : StIs w gS gW gD nW nD first out) : StIs w.drew gS gW gD nW nD first out := ⟨h.st, h.ne, h.hw, h.hd⟩
theorem StIs.row (h : StIs w gS gW gD nW nD first out) {base size m : Nat} {e : TypeId} {v : Value} {xs : List Value} (ho : w.ownsRow base e size v m xs) (hg : w.grownBy w' v.ownBlock) (hne : e ≠ 83) : StIs w' gS gW gD nW nD first out :=
  ⟨h.st.grown hg (Ne.symm (own_blk_ne ho h.st hne)), h.ne, h.hw.row ho hg, h.hd.row ho hg⟩
theorem StIs.set_ (h : StIs w gS gW gD nW nD first out) {g' : Nat} {t : TypeId} {cs : Array Value} (hb : Blk w g' t cs) (hne : 83 ≠ t) (j : Nat) (u : Value) : StIs (w.setCell ⟨g', j, none⟩ u) gS gW gD nW nD first out :=
  ⟨h.st.far (h.st.ne_ hb hne) u, h.ne, h.hw.set_ hb j u, h.hd.set_ hb j u⟩
end
/-- What a change of two blocks leaves. -/
def TwoBy (w w' : World) (g1 g2 : Nat) : Prop := ∃ wm, w.grownBy wm (some g1) ∧ wm.grownBy w' (some g2)
section
variable {w w' : World} {gS gW gD nW nD nW' nD' : Nat} {first : List ByteArray} {out out' : List Prt}
theorem TwoBy.size {g1 g2 : Nat} (h : TwoBy w w' g1 g2) : w.heap.size ≤ w'.heap.size := let ⟨_, h1, h2⟩ := h; Nat.le_trans h1.size h2.size
theorem TwoBy.below {g1 g2 B : Nat} (h : TwoBy w w' g1 g2) (h1 : B ≤ g1) (h2 : B ≤ g2) (hB : B ≤ w.heap.size) : Below B w w' := by
  obtain ⟨wm, a, b⟩ := h
  exact ((Below.refl B w).grown a hB (fun g hg => by injection hg with hg; omega)).grown b (Nat.le_trans hB a.size) (fun g hg => by injection hg with hg; omega)
theorem StIs.two_ev (h : StIs w gS gW gD nW nD first out) (ht : TwoBy w w' gW gD) {w0 : World} {base : Nat} {z : Value} {qs : List PtM} (he : EV w0 w base z qs) (h1 : base ≤ gW) (h2 : base ≤ gD) : EV w0 w' base z qs := by
  obtain ⟨wm, a, b⟩ := ht
  exact (h.hd.kept a (fun e => h.ne (by injection e with e; exact e.symm))).ev (h.hw.ev he h1 a) h2 b
theorem StIs.two_blk (h : StIs w gS gW gD nW nD first out) (ht : TwoBy w w' gW gD) {g' : Nat} {t : TypeId} {cs : Array Value} (hb : Blk w g' t cs) : Blk w' g' t cs := by
  obtain ⟨wm, a, b⟩ := ht
  exact (h.hd.kept a (fun e => h.ne (by injection e with e; exact e.symm))).blk (h.hw.blk hb a) b
end
end Go.Proofs.YtmlomnhjbmocfaaDoor
