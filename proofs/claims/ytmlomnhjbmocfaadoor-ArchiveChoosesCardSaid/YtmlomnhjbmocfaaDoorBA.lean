/- BA: texts that belong together. -/
import Derived.Below
import Derived.ChangeSame
import Derived.Deep.AppendLies
import Derived.Deep.Draws
import Derived.Deep.Fields
import Derived.Deep.Slices
import Derived.Laws.OwnMore
import Derived.Laws.Rows
import Derived.Lib.Hide
import Derived.OpenShut
set_option linter.all false
/- Words for memory: a slice that reads as a list of cells, and small facts on worlds. No program in sight. -/
namespace Go.Proofs.YtmlomnhjbmocfaaDoor
open Go.RowKit

theorem block_of_add (a : Addr) (n : Nat) : (a.add n).block = a.block := by unfold Addr.add; split <;> rfl
theorem add_of_add (a : Addr) (i j : Nat) : (a.add i).add j = a.add (i + j) := by
  unfold Addr.add
  by_cases hi : i = 0 <;> by_cases hj : j = 0 <;> simp [hi, hj, Nat.add_assoc]
theorem add_none (b off n : Nat) : (⟨b, off, none⟩ : Addr).add n = ⟨b, off + n, none⟩ := by
  unfold Addr.add; split <;> simp_all

/-- The slice with address A and n elements of 'size' cells each reads as the cells xs; it lies below block B. -/
def Reads (w : World) (B size : Nat) (A : Option Addr) (n : Nat) (xs : List Value) : Prop :=
  xs.length = n * size ∧ (0 < n → ∃ b off, A = some ⟨b, off, none⟩ ∧ b < B ∧ ∀ j u, xs[j]? = some u → w.cell? ⟨b, off + j, none⟩ = some u)

section
variable {w w' : World} {B B' size n : Nat} {A : Option Addr} {xs : List Value}
theorem Reads.none_ : Reads w B size A 0 [] := ⟨by simp, fun h => absurd h (by omega)⟩
theorem Reads.at_ {k : Nat} (h : Reads w B 1 A n xs) (hk : k < n) : ∃ b off u, A = some ⟨b, off, none⟩ ∧ b < B ∧ xs[k]? = some u ∧ w.cell? ⟨b, off + k, none⟩ = some u := by
  obtain ⟨b, off, e, hb, hc⟩ := h.2 (by omega)
  have hl : k < xs.length := by have := h.1; omega
  exact ⟨b, off, xs[k], e, hb, List.getElem?_eq_getElem hl, hc k _ (List.getElem?_eq_getElem hl)⟩
theorem Reads.keep (h : Reads w B size A n xs) (hk : ∀ p : Addr, p.block < B → w'.cell? p = w.cell? p) : Reads w' B size A n xs :=
  ⟨h.1, fun hn => by
    obtain ⟨b, off, e, hb, hc⟩ := h.2 hn
    exact ⟨b, off, e, hb, fun j u hu => (hk _ hb).trans (hc j u hu)⟩⟩
theorem Reads.more (h : Reads w B size A n xs) (hB : B ≤ B') : Reads w B' size A n xs :=
  ⟨h.1, fun hn => by
    obtain ⟨b, off, e, hb, hc⟩ := h.2 hn
    exact ⟨b, off, e, by omega, hc⟩⟩
theorem Reads.below (h : Reads w B size A n xs) (hb : Below B w w') : Reads w' B size A n xs := h.keep fun _ hp => hb.cell hp
theorem Reads.drew (h : Reads w B size A n xs) : Reads w.drew B size A n xs := h
theorem Reads.drewN (h : Reads w B size A n xs) (k : Nat) : Reads (w.drewN k) B size A n xs := h
theorem Reads.alloc (h : Reads w B size A n xs) (hB : B ≤ w.heap.size) (o : Obj) : Reads (w.alloc o) B size A n xs := h.keep fun p hp => World.cell?_alloc_lt w o p (by omega)
theorem Reads.setCell (h : Reads w B size A n xs) {p : Addr} (hB : B ≤ p.block) (u : Value) : Reads (w.setCell p u) B size A n xs :=
  h.keep fun q hq => World.cell?_setCell_other w p q u (fun e => by subst e; omega)
theorem Reads.grown (h : Reads w B size A n xs) {row : Option Nat} (hg : w.grownBy w' row) (hB : B ≤ w.heap.size) (hr : ∀ g, row = some g → B ≤ g) : Reads w' B size A n xs :=
  h.keep fun p hp => World.cell?_of_block (hg.block p.block (by omega) (fun e => by have := hr _ e.symm; omega))
theorem Reads.cut (h : Reads w B size A n xs) {k cap : Nat} (hk : k ≤ n) (hc : n ≤ cap) :
    Reads w B size (if cap = k then A else A.map (·.add (k * size))) (n - k) (xs.drop (k * size)) := by
  refine ⟨by rw [List.length_drop, h.1, Nat.sub_mul], fun hn => ?_⟩
  obtain ⟨b, off, rfl, hb, hcell⟩ := h.2 (by omega)
  rw [if_neg (by omega)]
  refine ⟨b, off + k * size, by simp [add_none], hb, fun j u hu => ?_⟩
  rw [Nat.add_assoc]
  exact hcell _ u (by rw [← hu, List.getElem?_drop])
theorem Reads.of_own {base : Nat} {e : TypeId} {c : Nat} (h : w.ownsRow base e size (.slice A n c) n xs) : Reads w w.heap.size size A n xs := by
  refine ⟨h.1, fun hn => ?_⟩
  obtain ⟨g, cap, hv, _, hlt⟩ := h.form hn
  have hA : A = some ⟨g, 0, none⟩ := by injection hv
  subst hA
  exact ⟨_, _, rfl, hlt, fun j u hu => by have := h.cells (g := g) rfl j u hu; rwa [add_none] at this⟩
/-- From the form in which the row's lemmas give a slice's cells. -/
theorem Reads.of_add {a : Addr} (hlen : xs.length = n * size) (hs : 0 < size) (hb : a.block < B) (hc : ∀ j u, xs[j]? = some u → w.cell? (a.add j) = some u) : Reads w B size (some a) n xs := by
  refine ⟨hlen, fun hn => ?_⟩
  have hl : 0 < xs.length := by rw [hlen]; exact Nat.mul_pos hn hs
  have h0 := hc 0 _ (List.getElem?_eq_getElem hl)
  have hsp : a.spot = none := by simpa [Addr.add] using World.cell?_spot h0
  obtain ⟨b, off, sp⟩ := a
  subst hsp
  exact ⟨b, off, rfl, hb, fun j u hu => by have := hc j u hu; rwa [add_none] at this⟩
end

theorem below_drewN {B : Nat} {a w : World} (h : Below B a w) (n : Nat) : Below B a (w.drewN n) := ⟨h.os, h.tape, h.output, h.size, h.block⟩
theorem bcell {W w1 : World} (hb : Below W.heap.size W w1) : (∀ b o, b < W.heap.size → w1.cell? ⟨b, o, none⟩ = W.cell? ⟨b, o, none⟩) ∧ (∀ b o, b < W.heap.size → w1.frozen? ⟨b, o, none⟩ = W.frozen? ⟨b, o, none⟩) :=
  ⟨fun b o h => hb.cell (p := ⟨b, o, none⟩) h, fun b o h => hb.frozen (p := ⟨b, o, none⟩) h⟩
theorem only_of_below {a w : World} (h : Below a.heap.size a w) (row : Option Nat) : a.grownBy w row := ⟨h.os, h.tape, h.output, h.size, fun i hi _ => h.block i hi⟩
theorem own_below {w w' : World} {base size n : Nat} {e : TypeId} {v : Value} {xs : List Value} (h : w.ownsRow base e size v n xs) (hb : Below w.heap.size w w') : w'.ownsRow base e size v n xs :=
  h.kept (only_of_below hb none) (by cases v.ownBlock <;> simp)
theorem own_push {w w' : World} {base size n : Nat} {e : TypeId} {v : Value} {xs : List Value} {o : Obj} (h : w.ownsRow base e size v n xs) (hg : (w.alloc o).grownBy w' v.ownBlock) (hB : base ≤ w.heap.size) :
    Below base w w' ∧ w.heap.size < w'.heap.size :=
  ⟨((Below.refl base w).alloc hB o).grown hg (by simp; omega) (fun k hk => (h.lt k hk).1), by have := hg.size; simp at this; omega⟩
theorem one_cell {w : World} {u : Value} {t : TypeId} (j : Nat) (u' : Value) (h : [u][j]? = some u') : (w.alloc (.cells #[u] t)).cell? ((⟨w.heap.size, 0, none⟩ : Addr).add j) = some u' := by
  match j, h with
  | 0, h => simp at h; subst h; simp [Addr.add]
/-- Block g is just the cells cs of element type t, none frozen. -/
def Blk (w : World) (g : Nat) (t : TypeId) (cs : Array Value) : Prop := w.heap[g]? = some (.cells cs t (0, 0))

section
variable {w w' : World} {g : Nat} {t : TypeId} {cs : Array Value}
theorem Blk.lt (h : Blk w g t cs) : g < w.heap.size := by
  rcases Nat.lt_or_ge g w.heap.size with hlt | hge
  · exact hlt
  · unfold Blk at h; rw [Array.getElem?_eq_none hge] at h; cases h
theorem Blk.cell (h : Blk w g t cs) (i : Nat) : w.cell? ⟨g, i, none⟩ = cs[i]? := cell_of_row w g i cs t (0, 0) h
theorem Blk.frozen (h : Blk w g t cs) (i : Nat) : w.frozen? ⟨g, i, none⟩ = false := by
  unfold Blk at h
  simp [World.frozen?, h]
theorem Blk.new (w : World) (t : TypeId) (cs : Array Value) : Blk (w.alloc (.cells cs t)) w.heap.size t cs := heap_alloc_new w _
theorem Blk.new' (w : World) (t : TypeId) (cs : Array Value) {g : Nat} (h : g = w.heap.size) : Blk (w.alloc (.cells cs t)) g t cs := h ▸ heap_alloc_new w _
theorem Blk.drew (h : Blk w g t cs) : Blk w.drew g t cs := h
theorem Blk.drewN (h : Blk w g t cs) (n : Nat) : Blk (w.drewN n) g t cs := h
theorem Blk.alloc (h : Blk w g t cs) (o : Obj) : Blk (w.alloc o) g t cs := (Below.heap_alloc w o g h.lt).trans h
theorem Blk.set_ (h : Blk w g t cs) (i : Nat) (u : Value) : Blk (w.setCell ⟨g, i, none⟩ u) g t (cs.setIfInBounds i u) := by
  unfold Blk at h ⊢
  simp [World.setCell, Array.getElem?_modify, h]
theorem Blk.far (h : Blk w g t cs) {p : Addr} (hp : g ≠ p.block) (u : Value) : Blk (w.setCell p u) g t cs := (Below.heap_setCell w p u g hp).trans h
theorem Blk.below {B : Nat} (h : Blk w g t cs) (hb : Below B w w') (hg : g < B) : Blk w' g t cs := (hb.block g hg).trans h
theorem Blk.all (h : Blk w g t cs) (hb : Below w.heap.size w w') : Blk w' g t cs := h.below hb h.lt
theorem Blk.grown {row : Option Nat} (h : Blk w g t cs) (hb : w.grownBy w' row) (hg : some g ≠ row) : Blk w' g t cs := (hb.block g h.lt hg).trans h
theorem Blk.ne_ {g' : Nat} {t' : TypeId} {cs' : Array Value} (h : Blk w g t cs) (h' : Blk w g' t' cs') (hne : t ≠ t') : g ≠ g' := by
  rintro rfl
  unfold Blk at h h'
  rw [h] at h'
  injection h' with h'
  injection h' with _ ht
  exact hne ht
theorem own_blk_ne {base : Nat} {e : TypeId} {size n : Nat} {v : Value} {xs : List Value} (h : w.ownsRow base e size v n xs) (hg : Blk w g t cs) (hne : e ≠ t) : v.ownBlock ≠ some g := by
  rcases h.2 with ⟨rfl, _⟩ | ⟨g', cap, cur, rfl, _, hh, _⟩
  · simp [Value.ownBlock]
  · intro he
    have : g' = g := by simpa [Value.ownBlock] using he
    subst this
    exact Blk.ne_ (t := e) hh hg hne rfl
/-- A whole block reads as a slice. -/
theorem Blk.reads (h : Blk w g t cs) {size n : Nat} (hn : cs.size = n * size) : Reads w w.heap.size size (some ⟨g, 0, none⟩) n cs.toList := by
  refine ⟨by simpa using hn, fun _ => ⟨g, 0, rfl, h.lt, fun j u hj => ?_⟩⟩
  rw [Nat.zero_add, h.cell]
  simpa using hj
end

def byteV (b : UInt8) : Value := .int .u8 (b.toNat : Int)
def bytesV (l : List UInt8) : List Value := l.map byteV
def intV (n : Int) : Value := .int .i64 n
def intsV (l : List Int) : List Value := l.map intV
def boolsV (l : List Bool) : List Value := l.map Value.bool

/-- A value is a slice of n elements that reads as xs. -/
def RowAt (w : World) (v : Value) (size n : Nat) (xs : List Value) : Prop := ∃ A c, v = .slice A n c ∧ n ≤ c ∧ Reads w w.heap.size size A n xs
theorem RowAt.nil (w : World) (size : Nat) : RowAt w (.slice none 0 0) size 0 [] := ⟨none, 0, rfl, Nat.le_refl _, Reads.none_⟩
theorem RowAt.of_own {w : World} {base size n : Nat} {e : TypeId} {v : Value} {xs : List Value} (h : w.ownsRow base e size v n xs) : RowAt w v size n xs := by
  rcases h.2 with ⟨rfl, rfl⟩ | ⟨g, cap, cur, rfl, _, _, hc, _⟩
  · have hx : xs = [] := List.eq_nil_of_length_eq_zero (by simpa using h.1)
    subst hx
    exact RowAt.nil w size
  · exact ⟨_, _, rfl, hc, Reads.of_own h⟩
end Go.Proofs.YtmlomnhjbmocfaaDoor

/- What a row's arguments are opened to: a type 'opens' to plain data. No program in sight. -/
namespace Go.Proofs.YtmlomnhjbmocfaaDoor
open Go.RowKit Go.ChangeShapes Go.WideShapes Go.Deep

/-- A value of type t that reads as data is 'cells a' for some a that is 'ok'. -/
def Opens {H : Type} (enc : TypeId × Value → H) (P : Program) (w : World) (t : TypeId) {α : Type} (cells : α → List Value) (ok : α → Prop) : Prop :=
  ∀ fuel cs x, DataW.trod enc P w 0 (fun _ => true) true fuel t cs = some x → ∃ a, cs = cells a ∧ ok a

theorem lt_of_cell {w : World} {a : Addr} {v : Value} (h : w.cell? a = some v) : a.block < w.heap.size := by
  rcases Nat.lt_or_ge a.block w.heap.size with hlt | hge
  · exact hlt
  · unfold World.cell? at h; rw [Array.getElem?_eq_none hge] at h; cases h

theorem list_of {α : Type} {p : Nat → α → Prop} : ∀ n, (∀ i, i < n → ∃ a, p i a) → ∃ l : List α, l.length = n ∧ ∀ i a, l[i]? = some a → p i a
  | 0, _ => ⟨[], rfl, fun i a h => by simp at h⟩
  | n + 1, h => by
    obtain ⟨l, hl, hp⟩ := list_of n fun i hi => h i (by omega)
    obtain ⟨a, ha⟩ := h n (by omega)
    refine ⟨l ++ [a], by simp [hl], fun i b hb => ?_⟩
    rcases Nat.lt_or_ge i n with hi | hi
    · rw [List.getElem?_append_left (by omega)] at hb
      exact hp i b hb
    · rw [List.getElem?_append_right (by omega)] at hb
      have : i = n := by
        have : i - l.length < 1 := by
          rcases Nat.lt_or_ge (i - l.length) 1 with h1 | h1
          · exact h1
          · rw [List.getElem?_eq_none (by simpa using h1)] at hb; cases hb
        omega
      subst this
      rw [hl, Nat.sub_self] at hb
      simp at hb
      subst hb
      exact ha

theorem flatMap_get {α : Type} {cells : α → List Value} {k : Nat} (hlen : ∀ a, (cells a).length = k) : ∀ (l : List α) (i j : Nat) (a : α), j < k → l[i]? = some a → (l.flatMap cells)[i * k + j]? = (cells a)[j]?
  | [], i, j, a, _, h => by simp at h
  | x :: r, i, j, a, hj, h => by
    rw [List.flatMap_cons]
    rcases i with _ | i
    · simp at h; subst h
      rw [List.getElem?_append_left (by rw [hlen]; omega)]
      simp
    · rw [List.getElem?_append_right (by rw [hlen, Nat.succ_mul]; omega)]
      have : (i + 1) * k + j - (cells x).length = i * k + j := by rw [hlen, Nat.succ_mul]; omega
      rw [this]
      exact flatMap_get hlen r i j a hj (by simpa using h)
theorem flatMap_len {α : Type} {cells : α → List Value} {k : Nat} (hlen : ∀ a, (cells a).length = k) (l : List α) : (l.flatMap cells).length = l.length * k := by
  induction l with
  | nil => simp
  | cons x r ih => rw [List.flatMap_cons, List.length_append, hlen, ih, List.length_cons, Nat.succ_mul]; omega
theorem flatMap_at {α : Type} {cells : α → List Value} {k : Nat} (hlen : ∀ a, (cells a).length = k) (hk : 0 < k) (l : List α) (j : Nat) (u : Value) (h : (l.flatMap cells)[j]? = some u) :
    ∃ a, l[j / k]? = some a ∧ (cells a)[j % k]? = some u := by
  have hj : j < l.length * k := by
    rw [← flatMap_len hlen l]
    exact (List.getElem?_eq_some_iff.1 h).1
  have hd : j / k < l.length := Nat.div_lt_of_lt_mul (by rwa [Nat.mul_comm])
  refine ⟨l[j / k], List.getElem?_eq_getElem hd, ?_⟩
  rw [← flatMap_get hlen l (j / k) (j % k) _ (Nat.mod_lt _ hk) (List.getElem?_eq_getElem hd), Nat.mul_comm, Nat.div_add_mod]
  exact h

section
variable {H : Type} {enc : TypeId × Value → H} {P : Program} {w : World} {t e : TypeId}

theorem opens_int {k : IntKind} (ht : P.underlying t = some (.int k)) : Opens enc P w t (fun n : Int => [.int k n]) (fun n => (Lit.int k n).wf = true) := fun _ _ _ h => by
  obtain ⟨n, hc, _, hw⟩ := DataW.trod_int ht h
  exact ⟨n, hc, hw⟩
theorem opens_bool (ht : P.underlying t = some .bool) : Opens enc P w t (fun b : Bool => [.bool b]) (fun _ => True) := fun _ _ _ h => by
  obtain ⟨b, hc, _⟩ := DataW.trod_bool ht h
  exact ⟨b, hc, trivial⟩
theorem opens_string (ht : P.underlying t = some .string) : Opens enc P w t (fun s : ByteArray => [.string s]) (fun s => s.size ≤ maxLen) := fun _ _ _ h => by
  obtain ⟨s, hc, _, hs⟩ := DataW.trod_string ht h
  exact ⟨s, hc, hs⟩
/-- A byte, as a byte. -/
theorem opens_byte (ht : P.underlying t = some (.int .u8)) : Opens enc P w t (fun b : UInt8 => [.int .u8 ((b.toNat : Nat) : Int)]) (fun _ => True) := fun _ _ _ h => by
  obtain ⟨n, hc, _, hw⟩ := DataW.trod_int ht h
  obtain ⟨h0, h1⟩ := bounds_u8 hw
  refine ⟨UInt8.ofNat n.toNat, ?_, trivial⟩
  have : ((UInt8.ofNat n.toNat).toNat : Int) = n := by
    rw [UInt8.toNat_ofNat']; omega
  show _ = [Value.int .u8 ((UInt8.ofNat n.toNat).toNat : Int)]
  rw [this, hc]

/-- What is known of a slice that came in: its address, its elements, its capacity. -/
structure SliceIn (α : Type) where
  A : Option Addr
  l : List α
  c : Nat

def SliceIn.cells {α : Type} (s : SliceIn α) : List Value := [.slice s.A s.l.length s.c]
structure SliceIn.Ok {α : Type} (w : World) (cells : α → List Value) (ok : α → Prop) (k : Nat) (s : SliceIn α) : Prop where
  reads : Reads w w.heap.size k s.A s.l.length (s.l.flatMap cells)
  each : ∀ a ∈ s.l, ok a
  cap : s.l.length ≤ s.c
  max : s.c ≤ 9223372036854775807

theorem opens_slice {α : Type} {cells : α → List Value} {ok : α → Prop} {k : Nat} (ht : P.underlying t = some (.slice e)) (hk : P.cellsOf e = k) (hk0 : 0 < k) (hlen : ∀ a, (cells a).length = k)
    (he : Opens enc P w e cells ok) : Opens enc P w t (SliceIn.cells (α := α)) (SliceIn.Ok w cells ok k) := fun fuel cs x h => by
  rcases open_slice ht h with ⟨rfl, _⟩ | ⟨a, len, cap, m, n, D, Pl, rfl, hb, hl, hm, hmm, _, hi⟩
  · exact ⟨⟨none, [], 0⟩, rfl, Reads.none_, fun a h => by simp at h, Nat.le_refl _, Nat.zero_le _⟩
  · rw [if_pos rfl] at hmm
    subst hmm
    rw [hk] at hi
    obtain ⟨l, hll, hp⟩ := list_of (p := fun i a' => (∀ j, j < k → w.cell? ((a.add (i * k)).add j) = (cells a')[j]?) ∧ ok a') len fun i hi' => by
      obtain ⟨cs', hc, ht'⟩ := hi i (by omega)
      obtain ⟨a', rfl, hok⟩ := he _ _ _ ht'
      obtain ⟨_, _, hat⟩ := World.cells?_some hc
      exact ⟨a', hat, hok⟩
    refine ⟨⟨some a, l, m⟩, by simp [SliceIn.cells, hll], ?_, fun a' ha' => ?_, by simp [hll, hl], by unfold maxLen at hm; exact hm⟩
    · have hcell : ∀ j u, (l.flatMap cells)[j]? = some u → w.cell? (a.add j) = some u := fun j u hj => by
        obtain ⟨a', h1, h2⟩ := flatMap_at hlen hk0 l j u hj
        have := (hp _ _ h1).1 (j % k) (Nat.mod_lt _ hk0)
        rw [Go.Proofs.YtmlomnhjbmocfaaDoor.add_of_add, Nat.mul_comm, Nat.div_add_mod, h2] at this
        exact this
      rcases Nat.eq_zero_or_pos l.length with h0 | h0
      · exact ⟨flatMap_len hlen l, fun hn => absurd hn (by show ¬ 0 < l.length; omega)⟩
      · refine Reads.of_add (flatMap_len hlen l) hk0 ?_ hcell
        have hlf : 0 < (l.flatMap cells).length := by rw [flatMap_len hlen]; exact Nat.mul_pos h0 hk0
        have := lt_of_cell (hcell 0 _ (List.getElem?_eq_getElem hlf))
        rwa [block_of_add] at this
    · obtain ⟨i, hi', rfl⟩ := List.getElem_of_mem ha'
      exact (hp i _ (List.getElem?_eq_getElem hi')).2
end
end Go.Proofs.YtmlomnhjbmocfaaDoor

/- More words for memory: beginnings of slices, blocks cell by cell. No program in sight. -/
namespace Go.Proofs.YtmlomnhjbmocfaaDoor
open Go.RowKit

theorem Reads.take {w : World} {B size n : Nat} {A : Option Addr} {xs : List Value} (h : Reads w B size A n xs) {k : Nat} (hk : k ≤ n) : Reads w B size A k (xs.take (k * size)) := by
  refine ⟨by rw [List.length_take, h.1]; exact Nat.min_eq_left (Nat.mul_le_mul_right _ hk), fun h0 => ?_⟩
  obtain ⟨b, off, e, hb, hc⟩ := h.2 (by omega)
  refine ⟨b, off, e, hb, fun j u hu => hc j u ?_⟩
  rw [List.getElem?_take] at hu
  split at hu
  · exact hu
  · cases hu
theorem flatMap_take {α : Type} {cells : α → List Value} {k : Nat} (hlen : ∀ a, (cells a).length = k) (l : List α) (n : Nat) : (l.take n).flatMap cells = (l.flatMap cells).take (n * k) := by
  induction l generalizing n with
  | nil => simp
  | cons x r ih =>
    rcases n with _ | n
    · simp
    · have e : (n + 1) * k = (cells x).length + n * k := by rw [hlen, Nat.succ_mul, Nat.add_comm]
      rw [List.take_succ_cons, List.flatMap_cons, List.flatMap_cons, ih, e, List.take_length_add_append]
theorem reads_cut {α : Type} {cells : α → List Value} {k : Nat} (hlen : ∀ a, (cells a).length = k) {w : World} {B : Nat} {A : Option Addr} {l : List α} (h : Reads w B k A l.length (l.flatMap cells)) {n : Nat} (hn : n ≤ l.length) :
    Reads w B k A n ((l.take n).flatMap cells) := by
  rw [flatMap_take hlen]; exact h.take hn
theorem intsV_flat (l : List Int) : intsV l = l.flatMap (fun n : Int => [.int .i64 n]) := by
  induction l with
  | nil => rfl
  | cons b l ih => rw [List.flatMap_cons, ← ih]; rfl
end Go.Proofs.YtmlomnhjbmocfaaDoor

/- Numbers in places: what fill's functions say, as plain data. No program in sight. -/
namespace Go.Proofs.YtmlomnhjbmocfaaDoor
open Go.RowKit

def leastOf (k : Int) : Int := if k = 1 then 0 else if k = 2 then 0 else if k = 3 then -128 else if k = 4 then -32768 else 1
def mostOf (k : Int) : Int := if k = 1 then 255 else if k = 2 then 65535 else if k = 3 then 127 else if k = 4 then 32767 else 0
def wideOf (k : Int) : Int := if k = 1 then 1 else if k = 3 then 1 else if k = 2 then 2 else if k = 4 then 2 else 0

/-- The four kinds, and all others. -/
theorem kinds_split (k : Int) : k = 1 ∨ k = 2 ∨ k = 3 ∨ k = 4 ∨ (k ≠ 1 ∧ k ≠ 2 ∧ k ≠ 3 ∧ k ≠ 4) := by omega
theorem least_le (k : Int) (h : leastOf k ≤ mostOf k) : k = 1 ∨ k = 2 ∨ k = 3 ∨ k = 4 := by
  rcases kinds_split k with h1 | h1 | h1 | h1 | ⟨h1, h2, h3, h4⟩
  · exact .inl h1
  · exact .inr (.inl h1)
  · exact .inr (.inr (.inl h1))
  · exact .inr (.inr (.inr h1))
  · simp [leastOf, mostOf, h1, h2, h3, h4] at h
theorem least_bd (k : Int) : -32768 ≤ leastOf k ∧ leastOf k ≤ 1 := by unfold leastOf; (repeat' split) <;> omega
theorem most_bd (k : Int) : 0 ≤ mostOf k ∧ mostOf k ≤ 65535 := by unfold mostOf; (repeat' split) <;> omega

def farOf (k : Int) : Bool := k == 3 || k == 4
def valueRes (k a t d : Int) : Int × Int :=
  if mostOf k < leastOf k then (0, 4)
  else if a < 0 ∨ a > 65536 ∨ t < 0 ∨ t > 65536 ∨ d < -10000 ∨ d > 10000 then (0, 3)
  else if (if farOf k then t + d - a else t + d) < leastOf k ∨ (if farOf k then t + d - a else t + d) > mostOf k then (0, 9)
  else ((if farOf k then t + d - a else t + d), 0)

theorem valueRes_kind {k a t d : Int} (h : mostOf k < leastOf k) : valueRes k a t d = (0, 4) := by unfold valueRes; rw [if_pos h]
theorem valueRes_range {k a t d : Int} (h : leastOf k ≤ mostOf k) (h1 : a < 0 ∨ a > 65536 ∨ t < 0 ∨ t > 65536 ∨ d < -10000 ∨ d > 10000) : valueRes k a t d = (0, 3) := by
  unfold valueRes; rw [if_neg (by omega), if_pos h1]
theorem valueRes_over {k a t d n : Int} (h : leastOf k ≤ mostOf k) (h1 : ¬ (a < 0 ∨ a > 65536 ∨ t < 0 ∨ t > 65536 ∨ d < -10000 ∨ d > 10000)) (hn : n = if farOf k then t + d - a else t + d)
    (h2 : n < leastOf k ∨ n > mostOf k) : valueRes k a t d = (0, 9) := by
  unfold valueRes; rw [if_neg (by omega), if_neg h1, ← hn, if_pos h2]
theorem valueRes_fits {k a t d n : Int} (h : leastOf k ≤ mostOf k) (h1 : ¬ (a < 0 ∨ a > 65536 ∨ t < 0 ∨ t > 65536 ∨ d < -10000 ∨ d > 10000)) (hn : n = if farOf k then t + d - a else t + d)
    (h2 : ¬ (n < leastOf k ∨ n > mostOf k)) : valueRes k a t d = (n, 0) := by
  unfold valueRes; rw [if_neg (by omega), if_neg h1, ← hn, if_neg h2]
theorem valueRes_ok {k a t d : Int} (h : (valueRes k a t d).2 = 0) :
    leastOf k ≤ mostOf k ∧ 0 ≤ a ∧ a ≤ 65536 ∧ 0 ≤ t ∧ t ≤ 65536 ∧ -10000 ≤ d ∧ d ≤ 10000 ∧ (valueRes k a t d).1 = (if farOf k then t + d - a else t + d) ∧
      leastOf k ≤ (valueRes k a t d).1 ∧ (valueRes k a t d).1 ≤ mostOf k := by
  rcases Int.lt_or_le (mostOf k) (leastOf k) with h0 | h0
  · rw [valueRes_kind h0] at h; simp at h
  · by_cases h1 : a < 0 ∨ a > 65536 ∨ t < 0 ∨ t > 65536 ∨ d < -10000 ∨ d > 10000
    · rw [valueRes_range h0 h1] at h; simp at h
    · by_cases h2 : (if farOf k then t + d - a else t + d) < leastOf k ∨ (if farOf k then t + d - a else t + d) > mostOf k
      · rw [valueRes_over h0 h1 rfl h2] at h; simp at h
      · rw [valueRes_fits h0 h1 rfl h2]
        refine ⟨h0, by omega, by omega, by omega, by omega, by omega, by omega, rfl, ?_, ?_⟩
        · show leastOf k ≤ _; omega
        · show _ ≤ mostOf k; omega

theorem wide_bd (k : Int) : 0 ≤ wideOf k ∧ wideOf k ≤ 2 := by unfold wideOf; (repeat' split) <;> omega
/-! ### bytes -/
def byteN (n : Int) : UInt8 := UInt8.ofNat (n % 256).toNat
theorem byteN_toNat (n : Int) : ((byteN n).toNat : Int) = n % 256 := by
  unfold byteN
  rw [UInt8.toNat_ofNat']
  omega
def putB (b : List UInt8) (p : Nat) (k n : Int) : List UInt8 :=
  if wideOf k = 2 then (b.set p (byteN n)).set (p + 1) (byteN (n / 256)) else b.set p (byteN n)
def putRes (b : List UInt8) (a k n : Int) : List UInt8 × Int :=
  if mostOf k < leastOf k then ([], 4) else if (b.length : Int) > 65536 then ([], 2)
  else if a < 0 ∨ a > b.length - wideOf k then ([], 5) else if n < leastOf k ∨ n > mostOf k then ([], 9)
  else (putB b a.toNat k n, 0)
def getB (b : List UInt8) (p : Nat) (k : Int) : Int :=
  if wideOf k = 2 then ((b.getD p 0).toNat : Int) + 256 * ((b.getD (p + 1) 0).toNat : Int) else ((b.getD p 0).toNat : Int)
def signed (k m : Int) : Int := if m > mostOf k then m - (if wideOf k = 2 then 65536 else 256) else m
def getRes (b : List UInt8) (a k : Int) : Int × Int :=
  if mostOf k < leastOf k then (0, 4) else if (b.length : Int) > 65536 then (0, 2)
  else if a < 0 ∨ a > b.length - wideOf k then (0, 5) else (signed k (getB b a.toNat k), 0)
theorem putB_len (b : List UInt8) (p : Nat) (k n : Int) : (putB b p k n).length = b.length := by unfold putB; split <;> simp
theorem bytesV_set (b : List UInt8) (p : Nat) (n : Int) : bytesV (b.set p (byteN n)) = (bytesV b).set p (.int .u8 (n % 256)) := by
  unfold bytesV
  rw [List.map_set]
  congr 1
  unfold byteV
  rw [byteN_toNat]
theorem putB_one {b : List UInt8} {p : Nat} {k n : Int} (h : wideOf k = 1) : bytesV (putB b p k n) = (bytesV b).set p (.int .u8 (n % 256)) := by
  unfold putB; rw [if_neg (by omega), bytesV_set]
theorem putB_two {b : List UInt8} {p : Nat} {k n : Int} (h : wideOf k = 2) : bytesV (putB b p k n) = ((bytesV b).set p (.int .u8 (n % 256))).set (p + 1) (.int .u8 (n / 256 % 256)) := by
  unfold putB; rw [if_pos h, bytesV_set, bytesV_set]
theorem wide_or {k : Int} (h : leastOf k ≤ mostOf k) : wideOf k = 1 ∨ wideOf k = 2 := by
  rcases least_le k h with rfl | rfl | rfl | rfl <;> decide
section
variable {b : List UInt8} {a k n : Int}
theorem putRes_kind (h : mostOf k < leastOf k) : putRes b a k n = ([], 4) := by unfold putRes; rw [if_pos h]
theorem putRes_many (h : leastOf k ≤ mostOf k) (h1 : 65536 < (b.length : Int)) : putRes b a k n = ([], 2) := by unfold putRes; rw [if_neg (by omega), if_pos (by omega)]
theorem putRes_who (h : leastOf k ≤ mostOf k) (h1 : (b.length : Int) ≤ 65536) (h2 : a < 0 ∨ (b.length : Int) - wideOf k < a) : putRes b a k n = ([], 5) := by
  unfold putRes; rw [if_neg (by omega), if_neg (by omega), if_pos (by omega)]
theorem putRes_over (h : leastOf k ≤ mostOf k) (h1 : (b.length : Int) ≤ 65536) (h2 : 0 ≤ a) (h3 : a ≤ (b.length : Int) - wideOf k) (h4 : n < leastOf k ∨ mostOf k < n) : putRes b a k n = ([], 9) := by
  unfold putRes; rw [if_neg (by omega), if_neg (by omega), if_neg (by omega), if_pos (by omega)]
theorem putRes_fits (h : leastOf k ≤ mostOf k) (h1 : (b.length : Int) ≤ 65536) (h2 : 0 ≤ a) (h3 : a ≤ (b.length : Int) - wideOf k) (h4 : leastOf k ≤ n) (h5 : n ≤ mostOf k) : putRes b a k n = (putB b a.toNat k n, 0) := by
  unfold putRes; rw [if_neg (by omega), if_neg (by omega), if_neg (by omega), if_neg (by omega)]
theorem getRes_kind (h : mostOf k < leastOf k) : getRes b a k = (0, 4) := by unfold getRes; rw [if_pos h]
theorem getRes_many (h : leastOf k ≤ mostOf k) (h1 : 65536 < (b.length : Int)) : getRes b a k = (0, 2) := by unfold getRes; rw [if_neg (by omega), if_pos (by omega)]
theorem getRes_who (h : leastOf k ≤ mostOf k) (h1 : (b.length : Int) ≤ 65536) (h2 : a < 0 ∨ (b.length : Int) - wideOf k < a) : getRes b a k = (0, 5) := by
  unfold getRes; rw [if_neg (by omega), if_neg (by omega), if_pos (by omega)]
theorem getRes_fits (h : leastOf k ≤ mostOf k) (h1 : (b.length : Int) ≤ 65536) (h2 : 0 ≤ a) (h3 : a ≤ (b.length : Int) - wideOf k) : getRes b a k = (signed k (getB b a.toNat k), 0) := by
  unfold getRes; rw [if_neg (by omega), if_neg (by omega), if_neg (by omega)]
end
end Go.Proofs.YtmlomnhjbmocfaaDoor

/- Parts as plain data: what obj.Check says of them; how they lie in memory. No program in sight. -/
namespace Go.Proofs.YtmlomnhjbmocfaaDoor
open Go.RowKit

theorem bytes_ext {a b : ByteArray} (h : a.data.toList = b.data.toList) : a = b := by
  obtain ⟨⟨x⟩⟩ := a
  obtain ⟨⟨y⟩⟩ := b
  simp at h
  rw [h]
theorem bytes_beq_iff (a b : ByteArray) : (a == b) = true ↔ a = b := by
  obtain ⟨x⟩ := a
  obtain ⟨y⟩ := b
  constructor
  · intro h
    have e : x = y := by simpa using (show (x == y) = true from h)
    rw [e]
  · intro h
    cases h
    show (x == x) = true
    simp
instance lawBytes : LawfulBEq ByteArray where
  eq_of_beq h := (bytes_beq_iff _ _).1 h
  rfl := (bytes_beq_iff _ _).2 rfl
instance decBytes : DecidableEq ByteArray := fun a b => decidable_of_iff (a.data.toList = b.data.toList) ⟨bytes_ext, fun h => by rw [h]⟩
theorem toList_nil {s : ByteArray} (h : s.size = 0) : s.toList = [] := by
  rw [ByteArray.toList_eq]
  exact List.eq_nil_of_length_eq_zero (by simpa using h)
theorem toList_some {s : ByteArray} (h : 0 < s.size) : (!s.toList.isEmpty) = true := by
  rw [ByteArray.toList_eq]
  rcases hl : s.data.toList with _ | ⟨a, r⟩
  · have : s.data.toList.length = 0 := by rw [hl]; rfl
    have h' : s.data.size = s.size := rfl
    rw [Array.length_toList] at this
    omega
  · rfl
theorem toList_one {s : ByteArray} (h : 0 < s.size) : s.toList.isEmpty = false := by
  have := toList_some h
  simpa using this

structure Rel where
  at_ : Int
  kind : Int
  name : ByteArray
  frag : Int
  add : Int
structure Frg where
  sect : Int
  align : Int
  group : ByteArray
  bs : List UInt8
  size : Int
  rs : List Rel
structure Df where
  name : ByteArray
  kind : Int
  frag : Int
  at_ : Int
  size : Int
  align : Int
structure Prt where
  frs : List Frg
  dfs : List Df

def Rel.cells (r : Rel) : List Value := [.int .i64 r.at_, .int .i64 r.kind, .string r.name, .int .i64 r.frag, .int .i64 r.add]
def relsV (l : List Rel) : List Value := l.flatMap Rel.cells
def Df.cells (d : Df) : List Value := [.string d.name, .int .i64 d.kind, .int .i64 d.frag, .int .i64 d.at_, .int .i64 d.size, .int .i64 d.align]
def dfsV (l : List Df) : List Value := l.flatMap Df.cells
theorem Rel.cells_len (r : Rel) : r.cells.length = 5 := rfl
theorem Df.cells_len (r : Df) : r.cells.length = 6 := rfl

/-- A fragment, and where its bytes and its places lie: no part of what it says. -/
structure FgM where
  f : Frg
  ba : Option Addr
  bc : Nat
  ra : Option Addr
  rc : Nat
def FgM.byV (x : FgM) : Value := .slice x.ba x.f.bs.length x.bc
def FgM.reV (x : FgM) : Value := .slice x.ra x.f.rs.length x.rc
def FgM.cells (x : FgM) : List Value := [.int .i64 x.f.sect, .int .i64 x.f.align, .string x.f.group, x.byV, .int .i64 x.f.size, x.reV]
def fgsV (l : List FgM) : List Value := l.flatMap FgM.cells
theorem FgM.cells_len (x : FgM) : x.cells.length = 6 := rfl
structure FgM.Good (w : World) (B : Nat) (x : FgM) : Prop where
  by_ : Reads w B 1 x.ba x.f.bs.length (bytesV x.f.bs)
  re : Reads w B 5 x.ra x.f.rs.length (relsV x.f.rs)
  bm : x.f.bs.length ≤ 9223372036854775807
  rm : x.f.rs.length ≤ 9223372036854775807

/-- A part, and where it lies. -/
structure PtM where
  frs : List FgM
  dfs : List Df
  fa : Option Addr
  fc : Nat
  da : Option Addr
  dc : Nat
def PtM.er (p : PtM) : Prt := ⟨p.frs.map FgM.f, p.dfs⟩
def PtM.frV (p : PtM) : Value := .slice p.fa p.frs.length p.fc
def PtM.dfV (p : PtM) : Value := .slice p.da p.dfs.length p.dc
def PtM.cells (p : PtM) : List Value := [p.frV, p.dfV]
def PtM.val (p : PtM) : Value := .agg #[p.frV, p.dfV]
structure PtM.At (w : World) (B : Nat) (p : PtM) : Prop where
  fr : Reads w B 6 p.fa p.frs.length (fgsV p.frs)
  each : ∀ x ∈ p.frs, x.Good w B
  df : Reads w B 6 p.da p.dfs.length (dfsV p.dfs)
  fm : p.frs.length ≤ 9223372036854775807
  dm : p.dfs.length ≤ 9223372036854775807

section
variable {w w' : World} {B B' : Nat} {x : FgM} {p : PtM}
theorem FgM.Good.keep (h : x.Good w B) (hb : Below B w w') (hB : B ≤ B') : x.Good w' B' := ⟨(h.by_.below hb).more hB, (h.re.below hb).more hB, h.bm, h.rm⟩
theorem PtM.At.keep (h : p.At w B) (hb : Below B w w') (hB : B ≤ B') : p.At w' B' :=
  ⟨(h.fr.below hb).more hB, fun x hx => (h.each x hx).keep hb hB, (h.df.below hb).more hB, h.fm, h.dm⟩
theorem PtM.At.all (h : p.At w w.heap.size) (hb : Below w.heap.size w w') : p.At w' w'.heap.size := h.keep hb hb.size
theorem FgM.Good.all (h : x.Good w w.heap.size) (hb : Below w.heap.size w w') : x.Good w' w'.heap.size := h.keep hb hb.size
end

theorem cells_get {α : Type} {cells : α → List Value} {k : Nat} (hlen : ∀ a, (cells a).length = k) {w : World} {B : Nat} {A : Option Addr} {l : List α} (h : Reads w B k A l.length (l.flatMap cells)) {i : Nat} {a : α} (ha : l[i]? = some a) :
    ∃ b off, A = some ⟨b, off, none⟩ ∧ b < B ∧ ∀ j u, (cells a)[j]? = some u → w.cell? ⟨b, off + i * k + j, none⟩ = some u := by
  obtain ⟨hi, _⟩ := List.getElem?_eq_some_iff.1 ha
  obtain ⟨b, off, e, hb, hc⟩ := h.2 (by omega)
  refine ⟨b, off, e, hb, fun j u hu => ?_⟩
  have hj : j < k := by rw [← hlen a]; exact (List.getElem?_eq_some_iff.1 hu).1
  rw [Nat.add_assoc]
  exact hc _ _ ((flatMap_get hlen l i j a hj ha).trans hu)
theorem fg_get {w : World} {B : Nat} {A : Option Addr} {l : List FgM} (h : Reads w B 6 A l.length (fgsV l)) {i : Nat} {x : FgM} (hx : l[i]? = some x) :
    ∃ b off, A = some ⟨b, off, none⟩ ∧ b < B ∧ w.cell? ⟨b, off + i * 6, none⟩ = some (.int .i64 x.f.sect) ∧ w.cell? ⟨b, off + i * 6 + 1, none⟩ = some (.int .i64 x.f.align) ∧ w.cell? ⟨b, off + i * 6 + 2, none⟩ = some (.string x.f.group) ∧
      w.cell? ⟨b, off + i * 6 + 3, none⟩ = some (.slice x.ba x.f.bs.length x.bc) ∧ w.cell? ⟨b, off + i * 6 + 4, none⟩ = some (.int .i64 x.f.size) ∧ w.cell? ⟨b, off + i * 6 + 5, none⟩ = some (.slice x.ra x.f.rs.length x.rc) := by
  obtain ⟨b, off, e, hb, hc⟩ := cells_get FgM.cells_len h hx
  exact ⟨b, off, e, hb, hc 0 _ rfl, hc 1 _ rfl, hc 2 _ rfl, hc 3 _ rfl, hc 4 _ rfl, hc 5 _ rfl⟩
theorem df_get {w : World} {B : Nat} {A : Option Addr} {l : List Df} (h : Reads w B 6 A l.length (dfsV l)) {i : Nat} {x : Df} (hx : l[i]? = some x) :
    ∃ b off, A = some ⟨b, off, none⟩ ∧ b < B ∧ w.cell? ⟨b, off + i * 6, none⟩ = some (.string x.name) ∧ w.cell? ⟨b, off + i * 6 + 1, none⟩ = some (.int .i64 x.kind) ∧ w.cell? ⟨b, off + i * 6 + 2, none⟩ = some (.int .i64 x.frag) ∧
      w.cell? ⟨b, off + i * 6 + 3, none⟩ = some (.int .i64 x.at_) ∧ w.cell? ⟨b, off + i * 6 + 4, none⟩ = some (.int .i64 x.size) ∧ w.cell? ⟨b, off + i * 6 + 5, none⟩ = some (.int .i64 x.align) := by
  obtain ⟨b, off, e, hb, hc⟩ := cells_get Df.cells_len h hx
  exact ⟨b, off, e, hb, hc 0 _ rfl, hc 1 _ rfl, hc 2 _ rfl, hc 3 _ rfl, hc 4 _ rfl, hc 5 _ rfl⟩
theorem rel_get {w : World} {B : Nat} {A : Option Addr} {l : List Rel} (h : Reads w B 5 A l.length (relsV l)) {i : Nat} {x : Rel} (hx : l[i]? = some x) :
    ∃ b off, A = some ⟨b, off, none⟩ ∧ b < B ∧ w.cell? ⟨b, off + i * 5, none⟩ = some (.int .i64 x.at_) ∧ w.cell? ⟨b, off + i * 5 + 1, none⟩ = some (.int .i64 x.kind) ∧ w.cell? ⟨b, off + i * 5 + 2, none⟩ = some (.string x.name) ∧
      w.cell? ⟨b, off + i * 5 + 3, none⟩ = some (.int .i64 x.frag) ∧ w.cell? ⟨b, off + i * 5 + 4, none⟩ = some (.int .i64 x.add) := by
  obtain ⟨b, off, e, hb, hc⟩ := cells_get Rel.cells_len h hx
  exact ⟨b, off, e, hb, hc 0 _ rfl, hc 1 _ rfl, hc 2 _ rfl, hc 3 _ rfl, hc 4 _ rfl⟩

/-- Whether a byte may stand in a name. -/
def nameC (c : UInt8) : Bool := (decide (97 ≤ (c.toNat : Int)) && decide ((c.toNat : Int) ≤ 122)) || (decide (48 ≤ (c.toNat : Int)) && decide ((c.toNat : Int) ≤ 57)) || ((c.toNat : Int) == 95)
theorem nameC_iff (c : UInt8) : nameC c = true ↔ (97 ≤ (c.toNat : Int) ∧ (c.toNat : Int) ≤ 122) ∨ (48 ≤ (c.toNat : Int) ∧ (c.toNat : Int) ≤ 57) ∨ (c.toNat : Int) = 95 := by
  unfold nameC; simp only [Bool.or_eq_true, Bool.and_eq_true, decide_eq_true_eq, beq_iff_eq, or_assoc]
theorem nameC_yes {c : UInt8} (h : (97 ≤ (c.toNat : Int) ∧ (c.toNat : Int) ≤ 122) ∨ (48 ≤ (c.toNat : Int) ∧ (c.toNat : Int) ≤ 57) ∨ (c.toNat : Int) = 95) : nameC c = true := (nameC_iff c).2 h
theorem nameC_no {c : UInt8} (h : ¬ ((97 ≤ (c.toNat : Int) ∧ (c.toNat : Int) ≤ 122) ∨ (48 ≤ (c.toNat : Int) ∧ (c.toNat : Int) ≤ 57) ∨ (c.toNat : Int) = 95)) : nameC c = false := by
  rcases hc : nameC c with _ | _
  · rfl
  · exact absurd ((nameC_iff c).1 hc) h
/-- Whether a text is a name. -/
def nameB (s : ByteArray) : Bool := decide (0 < s.size) && decide (s.size ≤ 8) && s.data.toList.all nameC
def alignB (n : Int) : Bool := n == 1 || n == 2 || n == 4 || n == 8
def Frg.long (f : Frg) : Int := if f.sect = 5 then f.size else f.bs.length

def ckRel (many nb last : Int) (r : Rel) : Int :=
  if wideOf r.kind = 0 ∨ r.at_ < last ∨ nb - wideOf r.kind < r.at_ ∨ r.add < -10000 ∨ 10000 < r.add then 3
  else if r.name.size = 0 then (if r.frag < -1 ∨ many ≤ r.frag then 5 else 0)
  else if nameB r.name = false ∨ r.frag ≠ 0 then 1 else 0
def ckRels (many nb : Int) : Int → List Rel → Int
  | _, [] => 0
  | last, r :: rs => if ckRel many nb last r ≠ 0 then ckRel many nb last r else ckRels many nb (r.at_ + wideOf r.kind) rs
def Frg.formed (f : Frg) : Prop := ¬ ((f.sect = 5 ∧ (0 < f.bs.length ∨ 0 < f.rs.length ∨ f.size < 0 ∨ 64 < f.size)) ∨ (f.sect ≠ 5 ∧ f.size ≠ 0) ∨ (f.sect = 3 ∧ 0 < f.rs.length))
instance (f : Frg) : Decidable f.formed := by unfold Frg.formed; exact inferInstance
def ckFrag (many : Int) (f : Frg) : Int :=
  if f.sect < 1 ∨ 5 < f.sect ∨ alignB f.align = false then 3
  else if f.group.size ≠ 0 ∧ nameB f.group = false then 1
  else if 64 < f.bs.length ∨ 8 < f.rs.length then 2
  else if ¬ f.formed then 4
  else ckRels many f.bs.length 0 f.rs
def ckDef (frs : List Frg) (d : Df) : Int :=
  if nameB d.name = false then 1
  else if d.kind = 1 ∨ d.kind = 2 then
    (if d.frag < 0 ∨ (frs.length : Int) ≤ d.frag then 5 else
      match frs[d.frag.toNat]? with
      | some f => if d.at_ < 0 ∨ f.long < d.at_ ∨ d.size ≠ 0 ∨ d.align ≠ 0 then 3 else 0
      | none => 5)
  else if d.kind = 3 then (if d.frag ≠ 0 ∨ d.at_ ≠ 0 ∨ d.size < 1 ∨ 64 < d.size ∨ alignB d.align = false then 3 else 0)
  else 4
def firstBad : List Int → Int
  | [] => 0
  | e :: r => if e ≠ 0 then e else firstBad r
def ckPart (p : Prt) : Int :=
  if 60 < p.frs.length ∨ 60 < p.dfs.length then 2
  else if firstBad (p.frs.map (ckFrag p.frs.length)) ≠ 0 then firstBad (p.frs.map (ckFrag p.frs.length))
  else firstBad (p.dfs.map (ckDef p.frs))

theorem firstBad_drop {l : List Int} {k : Nat} {e : Int} (h : l[k]? = some e) (he : e ≠ 0) : firstBad (l.drop k) = e := by
  obtain ⟨hk, hv⟩ := List.getElem?_eq_some_iff.1 h
  rw [List.drop_eq_getElem_cons hk, hv, firstBad, if_pos he]
theorem firstBad_next {l : List Int} {k : Nat} (h : l[k]? = some 0) : firstBad (l.drop k) = firstBad (l.drop (k + 1)) := by
  obtain ⟨hk, hv⟩ := List.getElem?_eq_some_iff.1 h
  rw [List.drop_eq_getElem_cons hk, hv, firstBad, if_neg (by simp)]
theorem firstBad_end {l : List Int} {k : Nat} (h : l.length ≤ k) : firstBad (l.drop k) = 0 := by
  rw [List.drop_of_length_le h, firstBad]
theorem firstBad_zero {l : List Int} : firstBad l = 0 ↔ ∀ e ∈ l, e = 0 := by
  induction l with
  | nil => simp [firstBad]
  | cons a r ih =>
    rw [firstBad]
    constructor
    · intro h
      split at h
      · rename_i h1; exact absurd h h1
      · rename_i h1
        intro e he
        rcases List.mem_cons.1 he with rfl | he
        · simpa using h1
        · exact ih.1 h e he
    · intro h
      have := h a (by simp)
      rw [if_neg (by simp [this])]
      exact ih.2 fun e he => h e (by simp [he])
end Go.Proofs.YtmlomnhjbmocfaaDoor

/- What part.Groups, Drop, Join, All compute. No program in sight. -/
namespace Go.Proofs.YtmlomnhjbmocfaaDoor

/-- The groups of fragments, in the order in which they come. -/
def groupsFrom (l : List ByteArray) : List Frg → List ByteArray
  | [] => l
  | f :: r => groupsFrom (if f.group.size = 0 ∨ f.group ∈ l then l else l ++ [f.group]) r
def groupsOf (frs : List Frg) : List ByteArray := groupsFrom [] frs

def Frg.gone (l : List ByteArray) (f : Frg) : Bool := decide (f.group.size ≠ 0 ∧ f.group ∈ l)
/-- Where each fragment goes; -1: nowhere. -/
def toFrom (l : List ByteArray) : Nat → List Frg → List Int
  | _, [] => []
  | n, f :: r => if f.gone l then -1 :: toFrom l n r else (n : Int) :: toFrom l (n + 1) r
def toOf (l : List ByteArray) (frs : List Frg) : List Int := toFrom l 0 frs
def Rel.re (to : List Int) (r : Rel) : Rel := if r.name.size = 0 ∧ 0 ≤ r.frag then { r with frag := to.getD r.frag.toNat 0 } else r
def Rel.shift (n : Nat) (r : Rel) : Rel := if r.name.size = 0 ∧ 0 ≤ r.frag then { r with frag := r.frag + n } else r
def Df.re (to : List Int) (d : Df) : Df := if d.kind ≠ 3 then { d with frag := to.getD d.frag.toNat 0 } else d
def Df.shift (n : Nat) (d : Df) : Df := if d.kind ≠ 3 then { d with frag := d.frag + n } else d
def Frg.mapR (g : Rel → Rel) (f : Frg) : Frg := { f with rs := f.rs.map g }
def dropP (p : Prt) (l : List ByteArray) : Prt :=
  ⟨(p.frs.filter fun f => !f.gone l).map (Frg.mapR (Rel.re (toOf l p.frs))), (p.dfs.map (Df.re (toOf l p.frs))).filter fun d => decide (0 ≤ d.frag)⟩
/-- Two parts joined, however great. -/
def joinU (a b : Prt) : Prt :=
  ⟨a.frs ++ (dropP b (groupsOf a.frs)).frs.map (Frg.mapR (Rel.shift a.frs.length)), a.dfs ++ (dropP b (groupsOf a.frs)).dfs.map (Df.shift a.frs.length)⟩
def Prt.nil : Prt := ⟨[], []⟩
def Prt.fits (p : Prt) : Prop := p.frs.length ≤ 60 ∧ p.dfs.length ≤ 60
instance (p : Prt) : Decidable p.fits := by unfold Prt.fits; exact inferInstance
def joinP (a b : Prt) : Prt × Int :=
  if ckPart a ≠ 0 then (.nil, ckPart a) else if ckPart b ≠ 0 then (.nil, ckPart b)
  else if (joinU a b).fits then (joinU a b, 0) else (.nil, 10)
def allFrom (a : Prt) : List Prt → Prt × Int
  | [] => (a, 0)
  | b :: r => if (joinP a b).2 ≠ 0 then (.nil, (joinP a b).2) else allFrom (joinP a b).1 r
def allP (l : List Prt) : Prt × Int := if 96 < l.length then (.nil, 2) else allFrom .nil l
end Go.Proofs.YtmlomnhjbmocfaaDoor

/- Parts whose places lead somewhere: joining them is associative. No program in sight. -/
namespace Go.Proofs.YtmlomnhjbmocfaaDoor

def Rel.okIn (n : Nat) (r : Rel) : Prop := r.name.size = 0 → -1 ≤ r.frag ∧ r.frag < n
def Df.okIn (n : Nat) (d : Df) : Prop := (d.kind = 3 → d.frag = 0) ∧ (d.kind ≠ 3 → 0 ≤ d.frag ∧ d.frag < n)
structure Prt.Right (p : Prt) : Prop where
  rel : ∀ f ∈ p.frs, ∀ r ∈ f.rs, r.okIn p.frs.length
  df : ∀ d ∈ p.dfs, d.okIn p.frs.length

theorem getD_right {α : Type} (a b : List α) (j : Nat) (d : α) (h : a.length ≤ j) : (a ++ b).getD j d = b.getD (j - a.length) d := by
  rw [List.getD_eq_getElem?_getD, List.getD_eq_getElem?_getD, List.getElem?_append_right h]
theorem getD_left {α : Type} (a b : List α) (j : Nat) (d : α) (h : j < a.length) : (a ++ b).getD j d = a.getD j d := by
  rw [List.getD_eq_getElem?_getD, List.getD_eq_getElem?_getD, List.getElem?_append_left h]
/-- What stays of fragments. -/
def keepF (l : List ByteArray) (c : List Frg) : List Frg := c.filter fun f => !f.gone l
theorem keepF_append (l : List ByteArray) (c d : List Frg) : keepF l (c ++ d) = keepF l c ++ keepF l d := List.filter_append ..
theorem keepF_le (l : List ByteArray) (c : List Frg) : (keepF l c).length ≤ c.length := List.length_filter_le ..
theorem toFrom_len (l : List ByteArray) (n : Nat) (c : List Frg) : (toFrom l n c).length = c.length := by
  induction c generalizing n with
  | nil => rfl
  | cons f r ih => unfold toFrom; split <;> simp [ih]
theorem toFrom_append (l : List ByteArray) (n : Nat) (c d : List Frg) : toFrom l n (c ++ d) = toFrom l n c ++ toFrom l (n + (keepF l c).length) d := by
  induction c generalizing n with
  | nil => simp [toFrom, keepF]
  | cons f r ih =>
    rw [List.cons_append, toFrom, toFrom]
    by_cases h : f.gone l = true
    · rw [if_pos h, if_pos h, ih]; simp [keepF, h]
    · rw [if_neg h, if_neg h, ih]
      have : keepF l (f :: r) = f :: keepF l r := by simp [keepF, h]
      rw [this, List.length_cons, List.cons_append, show n + 1 + (keepF l r).length = n + ((keepF l r).length + 1) by omega]
theorem to_at (l : List ByteArray) (c1 : List Frg) (x : Frg) (c2 : List Frg) : (toOf l (c1 ++ x :: c2)).getD c1.length 0 = if x.gone l then -1 else ((keepF l c1).length : Int) := by
  unfold toOf
  rw [toFrom_append, getD_right _ _ _ _ (by rw [toFrom_len]; exact Nat.le_refl _), toFrom_len, Nat.sub_self, toFrom]
  split <;> simp
theorem to_left (l : List ByteArray) (b c : List Frg) {j : Nat} (h : j < b.length) : (toOf l (b ++ c)).getD j 0 = (toOf l b).getD j 0 := by
  unfold toOf
  rw [toFrom_append, getD_left _ _ _ _ (by rw [toFrom_len]; exact h)]
theorem split_at {c : List Frg} {j : Nat} (h : j < c.length) : ∃ c1 x c2, c = c1 ++ x :: c2 ∧ c1.length = j :=
  ⟨c.take j, c[j], c.drop (j + 1), by rw [List.getElem_cons_drop, List.take_append_drop], by rw [List.length_take]; omega⟩
theorem to_bound (l : List ByteArray) {c : List Frg} {j : Nat} (h : j < c.length) : -1 ≤ (toOf l c).getD j 0 ∧ (toOf l c).getD j 0 < ((keepF l c).length : Int) := by
  obtain ⟨c1, x, c2, rfl, rfl⟩ := split_at h
  rw [to_at, keepF_append]
  by_cases hx : x.gone l = true
  · rw [if_pos hx]; simp; omega
  · rw [if_neg hx]
    have : keepF l (x :: c2) = x :: keepF l c2 := by simp [keepF, hx]
    rw [this]; simp; omega
theorem to_all (l : List ByteArray) {c : List Frg} (hc : ∀ f ∈ c, f.gone l = false) {j : Nat} (h : j < c.length) : (toOf l c).getD j 0 = j := by
  obtain ⟨c1, x, c2, rfl, rfl⟩ := split_at h
  rw [to_at, hc x (by simp)]
  have : keepF l c1 = c1 := by
    unfold keepF
    rw [List.filter_eq_self]
    intro f hf
    rw [hc f (by simp [hf])]; rfl
  rw [this]; simp

theorem gone_mapR (l : List ByteArray) (g : Rel → Rel) (f : Frg) : (f.mapR g).gone l = f.gone l := rfl
theorem keepF_map (l : List ByteArray) (g : Rel → Rel) (c : List Frg) : keepF l (c.map (Frg.mapR g)) = (keepF l c).map (Frg.mapR g) := by
  unfold keepF
  rw [List.filter_map]; rfl
theorem keepF_keepF {l m u : List ByteArray} (hu : ∀ f : Frg, f.gone u = (f.gone l || f.gone m)) (c : List Frg) : keepF l (keepF m c) = keepF u c := by
  unfold keepF
  rw [List.filter_filter]
  congr 1
  funext f
  rw [hu]; simp

/-- Where what was kept, and joined behind b, goes then. -/
theorem to_two {l m u : List ByteArray} (hu : ∀ f : Frg, f.gone u = (f.gone l || f.gone m)) (b c : List Frg) (g : Rel → Rel) {j : Nat} (h : j < c.length) :
    ((toOf m c).getD j 0 = -1 ∧ (toOf u c).getD j 0 = -1) ∨ ∃ i : Nat, (toOf m c).getD j 0 = i ∧
      (((toOf l (b ++ (keepF m c).map (Frg.mapR g))).getD (b.length + i) 0 = -1 ∧ (toOf u c).getD j 0 = -1) ∨
        ∃ k : Nat, (toOf l (b ++ (keepF m c).map (Frg.mapR g))).getD (b.length + i) 0 = (keepF l b).length + k ∧ (toOf u c).getD j 0 = k) := by
  obtain ⟨c1, x, c2, rfl, rfl⟩ := split_at h
  rw [to_at, to_at, hu]
  by_cases hx : x.gone m = true
  · exact .inl (by rw [hx]; simp)
  · have hx' : x.gone m = false := by simpa using hx
    have e : b ++ (keepF m (c1 ++ x :: c2)).map (Frg.mapR g) = (b ++ (keepF m c1).map (Frg.mapR g)) ++ x.mapR g :: (keepF m c2).map (Frg.mapR g) := by
      have : keepF m (x :: c2) = x :: keepF m c2 := by simp [keepF, hx']
      rw [keepF_append, this]; simp
    have e2 : b.length + (keepF m c1).length = (b ++ (keepF m c1).map (Frg.mapR g)).length := by simp
    refine .inr ⟨(keepF m c1).length, by rw [hx']; simp, ?_⟩
    rw [e, e2, to_at, gone_mapR, keepF_append, keepF_map, keepF_keepF hu, hx']
    by_cases hl : x.gone l = true
    · exact .inl (by rw [hl]; simp)
    · have hl' : x.gone l = false := by simpa using hl
      exact .inr ⟨(keepF u c1).length, by rw [hl']; simp, by rw [hl']; simp⟩

theorem re_left (l : List ByteArray) (b c : List Frg) {r : Rel} (h : r.okIn b.length) : r.re (toOf l (b ++ c)) = r.re (toOf l b) := by
  unfold Rel.re
  split
  · rename_i h1
    rw [to_left l b c (by have := h h1.1; omega)]
  · rfl
theorem Rel.re_at {r : Rel} {to : List Int} {t : Int} (h : r.name.size = 0 ∧ 0 ≤ r.frag) (ht : to.getD r.frag.toNat 0 = t) : r.re to = { r with frag := t } := by
  unfold Rel.re; rw [if_pos h, ht]
theorem re_two {l m u : List ByteArray} (hu : ∀ f : Frg, f.gone u = (f.gone l || f.gone m)) (b c : List Frg) (g : Rel → Rel) {r : Rel} (h : r.okIn c.length) :
    ((r.re (toOf m c)).shift b.length).re (toOf l (b ++ (keepF m c).map (Frg.mapR g))) = (r.re (toOf u c)).shift (keepF l b).length := by
  by_cases h1 : r.name.size = 0 ∧ 0 ≤ r.frag
  · obtain ⟨h2, h3⟩ := h h1.1
    have hj : r.frag.toNat < c.length := by omega
    rcases to_two hu b c g hj with ⟨t1, t3⟩ | ⟨i, t1, hr⟩
    · rw [Rel.re_at h1 t1, Rel.re_at h1 t3]
      unfold Rel.shift Rel.re
      simp
    · rw [Rel.re_at h1 t1]
      have e3 : Rel.shift b.length { r with frag := (i : Int) } = { r with frag := (i : Int) + b.length } := if_pos ⟨h1.1, by show (0 : Int) ≤ i; omega⟩
      have e5 : ((i : Int) + b.length).toNat = b.length + i := by omega
      rw [e3]
      rcases hr with ⟨t2, t3⟩ | ⟨k, t2, t3⟩
      · rw [Rel.re_at (r := { r with frag := (i : Int) + b.length }) (t := -1) ⟨h1.1, by show (0 : Int) ≤ i + b.length; omega⟩ (by show List.getD _ ((i : Int) + b.length).toNat 0 = _; rw [e5]; exact t2), Rel.re_at h1 t3]
        unfold Rel.shift
        simp
      · rw [Rel.re_at (r := { r with frag := (i : Int) + b.length }) (t := (keepF l b).length + k) ⟨h1.1, by show (0 : Int) ≤ i + b.length; omega⟩ (by show List.getD _ ((i : Int) + b.length).toNat 0 = _; rw [e5]; exact t2), Rel.re_at h1 t3]
        unfold Rel.shift
        rw [if_pos ⟨h1.1, by show (0 : Int) ≤ k; omega⟩]
        simp only [Rel.mk.injEq, true_and, and_true]
        omega
  · have e1 : ∀ to, r.re to = r := fun to => if_neg h1
    have e2 : ∀ n, r.shift n = r := fun n => if_neg h1
    rw [e1, e1, e2, e1, e2]

theorem Df.re_at {d : Df} {to : List Int} {t : Int} (h : d.kind ≠ 3) (ht : to.getD d.frag.toNat 0 = t) : d.re to = { d with frag := t } := by
  unfold Df.re; rw [if_pos h, ht]
theorem Df.re_common {d : Df} (to : List Int) (h : d.kind = 3) : d.re to = d := if_neg (by simp [h])
theorem Df.shift_common {d : Df} (n : Nat) (h : d.kind = 3) : d.shift n = d := if_neg (by simp [h])
theorem df_left (l : List ByteArray) (b c : List Frg) {d : Df} (h : d.okIn b.length) : d.re (toOf l (b ++ c)) = d.re (toOf l b) := by
  unfold Df.re
  split
  · rename_i h1
    rw [to_left l b c (by have := h.2 h1; omega)]
  · rfl
/-- Definitions moved, and those kept that lead somewhere. -/
def reDfs (to : List Int) (l : List Df) : List Df := (l.map (Df.re to)).filter fun d => decide (0 ≤ d.frag)
theorem reDfs_append (to : List Int) (l m : List Df) : reDfs to (l ++ m) = reDfs to l ++ reDfs to m := by unfold reDfs; rw [List.map_append, List.filter_append]
theorem reDfs_cons_in {to : List Int} {d : Df} {l : List Df} (h : 0 ≤ (d.re to).frag) : reDfs to (d :: l) = d.re to :: reDfs to l := by simp [reDfs, h]
theorem reDfs_cons_out {to : List Int} {d : Df} {l : List Df} (h : (d.re to).frag < 0) : reDfs to (d :: l) = reDfs to l := by simp [reDfs, h]
theorem reDfs_left (l : List ByteArray) (b c : List Frg) {ds : List Df} (h : ∀ d ∈ ds, d.okIn b.length) : reDfs (toOf l (b ++ c)) ds = reDfs (toOf l b) ds := by
  unfold reDfs
  congr 1
  exact List.map_congr_left fun d hd => df_left l b c (h d hd)
theorem reDfs_two {l m u : List ByteArray} (hu : ∀ f : Frg, f.gone u = (f.gone l || f.gone m)) (b c : List Frg) (g : Rel → Rel) {ds : List Df} (h : ∀ d ∈ ds, d.okIn c.length) :
    reDfs (toOf l (b ++ (keepF m c).map (Frg.mapR g))) ((reDfs (toOf m c) ds).map (Df.shift b.length)) = (reDfs (toOf u c) ds).map (Df.shift (keepF l b).length) := by
  induction ds with
  | nil => rfl
  | cons d ds ih =>
    have ih := ih fun x hx => h x (by simp [hx])
    obtain ⟨h0, h1⟩ := h d (by simp)
    by_cases hk : d.kind = 3
    · have hf := h0 hk
      rw [reDfs_cons_in (d := d) (by rw [Df.re_common _ hk]; omega), reDfs_cons_in (d := d) (by rw [Df.re_common _ hk]; omega), Df.re_common _ hk, Df.re_common _ hk, List.map_cons, List.map_cons, Df.shift_common _ hk, Df.shift_common _ hk,
        reDfs_cons_in (d := d) (by rw [Df.re_common _ hk]; omega), Df.re_common _ hk, ih]
    · have hj : d.frag.toNat < c.length := by have := h1 hk; omega
      rcases to_two hu b c g hj with ⟨t1, t3⟩ | ⟨i, t1, hr⟩
      · rw [reDfs_cons_out (d := d) (by rw [Df.re_at hk t1]; show (-1 : Int) < 0; omega), reDfs_cons_out (d := d) (by rw [Df.re_at hk t3]; show (-1 : Int) < 0; omega), ih]
      · have e1 : (d.re (toOf m c)).shift b.length = { d with frag := (i : Int) + b.length } := by rw [Df.re_at hk t1]; exact if_pos hk
        have e5 : ((i : Int) + b.length).toNat = b.length + i := by omega
        rw [reDfs_cons_in (to := toOf m c) (d := d) (by rw [Df.re_at hk t1]; show (0 : Int) ≤ i; omega), List.map_cons, e1]
        rcases hr with ⟨t2, t3⟩ | ⟨k, t2, t3⟩
        · rw [reDfs_cons_out (d := { d with frag := (i : Int) + b.length }) (by rw [Df.re_at (d := { d with frag := (i : Int) + b.length }) (t := -1) hk (by show List.getD _ ((i : Int) + b.length).toNat 0 = _; rw [e5]; exact t2)]; show (-1 : Int) < 0; omega),
            reDfs_cons_out (to := toOf u c) (d := d) (by rw [Df.re_at hk t3]; show (-1 : Int) < 0; omega), ih]
        · have e2 := Df.re_at (d := { d with frag := (i : Int) + b.length }) (t := (keepF l b).length + k) hk (by show List.getD _ ((i : Int) + b.length).toNat 0 = _; rw [e5]; exact t2)
          rw [reDfs_cons_in (d := { d with frag := (i : Int) + b.length }) (by rw [e2]; show (0 : Int) ≤ (keepF l b).length + k; omega), e2, reDfs_cons_in (to := toOf u c) (d := d) (by rw [Df.re_at hk t3]; show (0 : Int) ≤ k; omega), List.map_cons, ih, Df.re_at hk t3]
          congr 1
          unfold Df.shift
          rw [if_pos (by exact hk)]
          simp only [Df.mk.injEq, true_and, and_true]
          omega

theorem mem_groupsFrom (g : ByteArray) (l : List ByteArray) (c : List Frg) : g ∈ groupsFrom l c ↔ g ∈ l ∨ (g.size ≠ 0 ∧ ∃ f ∈ c, f.group = g) := by
  induction c generalizing l with
  | nil => simp [groupsFrom]
  | cons f r ih =>
    rw [groupsFrom, ih]
    by_cases h : f.group.size = 0 ∨ f.group ∈ l
    · rw [if_pos h]
      constructor
      · rintro (h1 | ⟨h1, x, hx, e⟩)
        · exact .inl h1
        · exact .inr ⟨h1, x, by simp [hx], e⟩
      · rintro (h1 | ⟨h1, x, hx, e⟩)
        · exact .inl h1
        · rcases List.mem_cons.1 hx with rfl | hx
          · rcases h with h | h
            · rw [e] at h; exact absurd h h1
            · rw [e] at h; exact .inl h
          · exact .inr ⟨h1, x, hx, e⟩
    · rw [if_neg h]
      have h2 : f.group.size ≠ 0 := fun e => h (.inl e)
      constructor
      · rintro (h1 | ⟨h1, x, hx, e⟩)
        · rcases List.mem_append.1 h1 with h1 | h1
          · exact .inl h1
          · obtain rfl : g = f.group := by simpa using h1
            exact .inr ⟨h2, f, by simp, rfl⟩
        · exact .inr ⟨h1, x, by simp [hx], e⟩
      · rintro (h1 | ⟨h1, x, hx, e⟩)
        · exact .inl (by simp [h1])
        · rcases List.mem_cons.1 hx with rfl | hx
          · exact .inl (by simp [e])
          · exact .inr ⟨h1, x, hx, e⟩
theorem mem_groupsOf (g : ByteArray) (c : List Frg) : g ∈ groupsOf c ↔ g.size ≠ 0 ∧ ∃ f ∈ c, f.group = g := by
  unfold groupsOf; rw [mem_groupsFrom]; simp
theorem groupsFrom_append (l : List ByteArray) (c d : List Frg) : groupsFrom l (c ++ d) = groupsFrom (groupsFrom l c) d := by
  induction c generalizing l with
  | nil => rfl
  | cons f r ih => rw [List.cons_append, groupsFrom, groupsFrom, ih]
theorem groupsFrom_more (l : List ByteArray) (c : List Frg) : ∃ r, groupsFrom l c = l ++ r := by
  induction c generalizing l with
  | nil => exact ⟨[], by simp [groupsFrom]⟩
  | cons f r ih =>
    rw [groupsFrom]
    obtain ⟨s, hs⟩ := ih (if f.group.size = 0 ∨ f.group ∈ l then l else l ++ [f.group])
    rw [hs]
    split
    · exact ⟨s, rfl⟩
    · exact ⟨f.group :: s, by simp⟩
theorem gone_iff (l : List ByteArray) (f : Frg) : f.gone l = true ↔ f.group.size ≠ 0 ∧ f.group ∈ l := by unfold Frg.gone; simp
theorem gone_groups (f : Frg) (c : List Frg) : f.gone (groupsOf c) = true ↔ f.group.size ≠ 0 ∧ ∃ x ∈ c, x.group = f.group := by
  rw [gone_iff, mem_groupsOf]
  exact ⟨fun ⟨h, _, h2⟩ => ⟨h, h2⟩, fun ⟨h, h2⟩ => ⟨h, h, h2⟩⟩
theorem joinU_frs (a b : Prt) : (joinU a b).frs = a.frs ++ (keepF (groupsOf a.frs) b.frs).map (Frg.mapR fun r => (r.re (toOf (groupsOf a.frs) b.frs)).shift a.frs.length) := by
  unfold joinU dropP keepF
  simp only [List.map_map]
  congr 2
  funext f
  simp [Frg.mapR, Function.comp_def]
theorem joinU_dfs (a b : Prt) : (joinU a b).dfs = a.dfs ++ (reDfs (toOf (groupsOf a.frs) b.frs) b.dfs).map (Df.shift a.frs.length) := rfl
theorem gone_join (a b : Prt) (f : Frg) : f.gone (groupsOf (joinU a b).frs) = (f.gone (groupsOf a.frs) || f.gone (groupsOf b.frs)) := by
  rw [Bool.eq_iff_iff, Bool.or_eq_true, gone_groups, gone_groups, gone_groups, joinU_frs]
  constructor
  · rintro ⟨h, x, hx, e⟩
    rcases List.mem_append.1 hx with hx | hx
    · exact .inl ⟨h, x, hx, e⟩
    · obtain ⟨y, hy, rfl⟩ := List.mem_map.1 hx
      exact .inr ⟨h, y, (List.mem_filter.1 hy).1, e⟩
  · rintro (⟨h, x, hx, e⟩ | ⟨h, x, hx, e⟩)
    · exact ⟨h, x, List.mem_append_left _ hx, e⟩
    · by_cases hg : x.gone (groupsOf a.frs) = true
      · obtain ⟨_, y, hy, e'⟩ := (gone_groups _ _).1 hg
        exact ⟨h, y, List.mem_append_left _ hy, e'.trans e⟩
      · exact ⟨h, x.mapR _, List.mem_append_right _ (List.mem_map_of_mem (List.mem_filter.2 ⟨hx, by simpa using hg⟩)), e⟩

theorem shift_shift (n m : Nat) (r : Rel) : (r.shift n).shift m = r.shift (m + n) := by
  unfold Rel.shift
  by_cases h : r.name.size = 0 ∧ 0 ≤ r.frag
  · rw [if_pos h, if_pos ⟨h.1, by show (0 : Int) ≤ r.frag + n; omega⟩, if_pos h]
    simp only [Rel.mk.injEq, true_and, and_true]
    omega
  · rw [if_neg h, if_neg h, if_neg h]
theorem dshift_shift (n m : Nat) (d : Df) : (d.shift n).shift m = d.shift (m + n) := by
  unfold Df.shift
  by_cases h : d.kind ≠ 3
  · rw [if_pos h, if_pos (by exact h), if_pos h]
    simp only [Df.mk.injEq, true_and, and_true]
    omega
  · rw [if_neg h, if_neg h, if_neg h]
theorem re_ok {n n' : Nat} {to : List Int} (h : ∀ j, j < n → -1 ≤ to.getD j 0 ∧ to.getD j 0 < n') {r : Rel} (hr : r.okIn n) : (r.re to).okIn n' := by
  unfold Rel.re
  split
  · rename_i h1
    intro _
    have := hr h1.1
    exact h _ (by omega)
  · rename_i h1
    intro h2
    have := hr h2
    have : ¬ 0 ≤ r.frag := fun h3 => h1 ⟨h2, h3⟩
    omega
theorem shift_ok {n m : Nat} {r : Rel} (hr : r.okIn n) : (r.shift m).okIn (m + n) := by
  unfold Rel.shift
  split
  · rename_i h1
    intro _
    have := hr h1.1
    show -1 ≤ r.frag + m ∧ r.frag + m < ((m + n : Nat) : Int)
    omega
  · intro h2
    have := hr h2
    omega
theorem ok_more {n n' : Nat} (h : n ≤ n') {r : Rel} (hr : r.okIn n) : r.okIn n' := fun h2 => by have := hr h2; omega
theorem df_more {n n' : Nat} (h : n ≤ n') {d : Df} (hr : d.okIn n) : d.okIn n' := ⟨hr.1, fun h2 => by have := hr.2 h2; omega⟩
theorem dropP_frs (p : Prt) (l : List ByteArray) : (dropP p l).frs = (keepF l p.frs).map (Frg.mapR (Rel.re (toOf l p.frs))) := rfl
theorem dropP_dfs (p : Prt) (l : List ByteArray) : (dropP p l).dfs = reDfs (toOf l p.frs) p.dfs := rfl
theorem dropP_len (p : Prt) (l : List ByteArray) : (dropP p l).frs.length = (keepF l p.frs).length := by rw [dropP_frs, List.length_map]
theorem right_drop {p : Prt} (h : p.Right) (l : List ByteArray) : (dropP p l).Right := by
  refine ⟨fun f hf r hr => ?_, fun d hd => ?_⟩
  · rw [dropP_len]
    rw [dropP_frs] at hf
    obtain ⟨x, hx, rfl⟩ := List.mem_map.1 hf
    obtain ⟨y, hy, rfl⟩ := List.mem_map.1 (show r ∈ x.rs.map _ from hr)
    exact re_ok (fun j hj => to_bound l hj) (h.rel x (List.mem_filter.1 hx).1 y hy)
  · rw [dropP_len]
    rw [dropP_dfs] at hd
    obtain ⟨hd, h0⟩ := List.mem_filter.1 hd
    have h0 : 0 ≤ d.frag := by simpa using h0
    obtain ⟨x, hx, rfl⟩ := List.mem_map.1 hd
    obtain ⟨h1, h2⟩ := h.df x hx
    by_cases hk : x.kind = 3
    · rw [Df.re_common _ hk] at h0 ⊢
      exact ⟨h1, fun hn => absurd hk hn⟩
    · rw [Df.re_at hk rfl] at h0 ⊢
      refine ⟨fun hn => absurd hn hk, fun _ => ⟨h0, ?_⟩⟩
      have := h2 hk
      exact (to_bound l (c := p.frs) (j := x.frag.toNat) (by omega)).2
def addP (a c : Prt) : Prt := ⟨a.frs ++ c.frs.map (Frg.mapR (Rel.shift a.frs.length)), a.dfs ++ c.dfs.map (Df.shift a.frs.length)⟩
theorem joinU_add (a b : Prt) : joinU a b = addP a (dropP b (groupsOf a.frs)) := rfl
theorem right_add {a c : Prt} (ha : a.Right) (hc : c.Right) : (addP a c).Right := by
  have hn : (addP a c).frs.length = a.frs.length + c.frs.length := by simp [addP]
  refine ⟨fun f hf r hr => ?_, fun d hd => ?_⟩
  · rw [hn]
    rcases List.mem_append.1 hf with hf | hf
    · exact ok_more (by omega) (ha.rel f hf r hr)
    · obtain ⟨x, hx, rfl⟩ := List.mem_map.1 hf
      obtain ⟨y, hy, rfl⟩ := List.mem_map.1 (show r ∈ x.rs.map _ from hr)
      exact shift_ok (hc.rel x hx y hy)
  · rw [hn]
    rcases List.mem_append.1 hd with hd | hd
    · exact df_more (by omega) (ha.df d hd)
    · obtain ⟨x, hx, rfl⟩ := List.mem_map.1 hd
      obtain ⟨h1, h2⟩ := hc.df x hx
      by_cases hk : x.kind = 3
      · rw [Df.shift_common _ hk]
        exact ⟨h1, fun hn => absurd hk hn⟩
      · have e : x.shift a.frs.length = { x with frag := x.frag + a.frs.length } := if_pos hk
        rw [e]
        refine ⟨fun hn => absurd hn hk, fun _ => ?_⟩
        have := h2 hk
        show 0 ≤ x.frag + a.frs.length ∧ x.frag + a.frs.length < ((a.frs.length + c.frs.length : Nat) : Int)
        omega
theorem right_join {a b : Prt} (ha : a.Right) (hb : b.Right) : (joinU a b).Right := right_add ha (right_drop hb _)
theorem right_nil : Prt.nil.Right := ⟨fun f hf => absurd hf (by simp [Prt.nil]), fun d hd => absurd hd (by simp [Prt.nil])⟩

theorem drop_join {b c : Prt} (hb : b.Right) (hc : c.Right) {l u : List ByteArray} (hu : ∀ f : Frg, f.gone u = (f.gone l || f.gone (groupsOf b.frs))) :
    dropP (joinU b c) l = addP (dropP b l) (dropP c u) := by
  have e1 : (dropP (joinU b c) l).frs = (addP (dropP b l) (dropP c u)).frs := by
    show _ = (dropP b l).frs ++ (dropP c u).frs.map (Frg.mapR (Rel.shift (dropP b l).frs.length))
    rw [dropP_len, dropP_frs, dropP_frs, dropP_frs]
    rw [joinU_frs, keepF_append, List.map_append, keepF_map, keepF_keepF hu, List.map_map, List.map_map]
    congr 1
    · refine List.map_congr_left fun f hf => ?_
      unfold Frg.mapR
      congr 1
      exact List.map_congr_left fun r hr => re_left l b.frs _ (hb.rel f (List.mem_filter.1 hf).1 r hr)
    · refine List.map_congr_left fun f hf => ?_
      unfold Frg.mapR
      simp only [Function.comp_apply, List.map_map, Frg.mk.injEq, true_and]
      exact List.map_congr_left fun r hr => re_two hu b.frs c.frs _ (hc.rel f (List.mem_filter.1 hf).1 r hr)
  have e2 : (dropP (joinU b c) l).dfs = (addP (dropP b l) (dropP c u)).dfs := by
    show _ = (dropP b l).dfs ++ (dropP c u).dfs.map (Df.shift (dropP b l).frs.length)
    rw [dropP_len, dropP_dfs, dropP_dfs, dropP_dfs, joinU_dfs, reDfs_append, joinU_frs, reDfs_left l b.frs _ hb.df, reDfs_two hu b.frs c.frs _ hc.df]
  exact Prt.mk.injEq _ _ _ _ ▸ ⟨e1, e2⟩
theorem addP_assoc (a b c : Prt) : addP (addP a b) c = addP a (addP b c) := by
  have hn : (addP a b).frs.length = a.frs.length + b.frs.length := by simp [addP]
  have e1 : (addP (addP a b) c).frs = (addP a (addP b c)).frs := by
    show (addP a b).frs ++ c.frs.map (Frg.mapR (Rel.shift (addP a b).frs.length)) = a.frs ++ (b.frs ++ c.frs.map (Frg.mapR (Rel.shift b.frs.length))).map (Frg.mapR (Rel.shift a.frs.length))
    rw [hn, List.map_append, List.map_map, ← List.append_assoc]
    congr 1
    refine List.map_congr_left fun f _ => ?_
    unfold Frg.mapR
    simp only [Function.comp_apply, List.map_map, Frg.mk.injEq, true_and]
    exact List.map_congr_left fun r _ => (shift_shift _ _ r).symm
  have e2 : (addP (addP a b) c).dfs = (addP a (addP b c)).dfs := by
    show (addP a b).dfs ++ c.dfs.map (Df.shift (addP a b).frs.length) = a.dfs ++ (b.dfs ++ c.dfs.map (Df.shift b.frs.length)).map (Df.shift a.frs.length)
    rw [hn, List.map_append, List.map_map, ← List.append_assoc]
    congr 1
    exact List.map_congr_left fun d _ => (dshift_shift _ _ d).symm
  exact Prt.mk.injEq _ _ _ _ ▸ ⟨e1, e2⟩
/-- Whichever two are joined first, it comes to the same. -/
theorem join_assoc {a b c : Prt} (hb : b.Right) (hc : c.Right) : joinU (joinU a b) c = joinU a (joinU b c) := by
  rw [joinU_add, joinU_add a (joinU b c), drop_join hb hc (gone_join a b), joinU_add a b, addP_assoc]

/-- Where nothing is gone, nothing changes. -/
theorem drop_none {p : Prt} (h : p.Right) {l : List ByteArray} (hl : ∀ f ∈ p.frs, f.gone l = false) : dropP p l = p := by
  have hk : keepF l p.frs = p.frs := List.filter_eq_self.2 fun f hf => by rw [hl f hf]; rfl
  have e1 : (dropP p l).frs = p.frs := by
    rw [dropP_frs, hk]
    conv => rhs; rw [← List.map_id p.frs]
    refine List.map_congr_left fun f hf => ?_
    have : f.rs.map (Rel.re (toOf l p.frs)) = f.rs := by
      conv => rhs; rw [← List.map_id f.rs]
      refine List.map_congr_left fun r hr => ?_
      unfold Rel.re
      split
      · rename_i h1
        have := h.rel f hf r hr h1.1
        rw [to_all l hl (by omega), Int.toNat_of_nonneg h1.2]; rfl
      · rfl
    unfold Frg.mapR
    rw [this]; rfl
  have e2 : (dropP p l).dfs = p.dfs := by
    rw [dropP_dfs]
    unfold reDfs
    have : p.dfs.map (Df.re (toOf l p.frs)) = p.dfs := by
      conv => rhs; rw [← List.map_id p.dfs]
      refine List.map_congr_left fun d hd => ?_
      unfold Df.re
      split
      · rename_i h1
        have := (h.df d hd).2 h1
        rw [to_all l hl (by omega), Int.toNat_of_nonneg this.1]; rfl
      · rfl
    rw [this, List.filter_eq_self]
    intro d hd
    obtain ⟨h1, h2⟩ := h.df d hd
    by_cases hk : d.kind = 3
    · simp [h1 hk]
    · simp [(h2 hk).1]
  exact Prt.mk.injEq _ _ _ _ ▸ ⟨e1, e2⟩
theorem shift_zero (r : Rel) : r.shift 0 = r := by
  unfold Rel.shift
  split
  · simp
  · rfl
theorem dshift_zero (d : Df) : d.shift 0 = d := by
  unfold Df.shift
  split
  · simp
  · rfl
theorem nil_join {a : Prt} (h : a.Right) : joinU .nil a = a := by
  rw [joinU_add, drop_none h (fun f _ => by unfold Frg.gone; simp [Prt.nil, groupsOf, groupsFrom])]
  have e1 : a.frs.map (Frg.mapR (Rel.shift 0)) = a.frs := by
    conv => rhs; rw [← List.map_id a.frs]
    refine List.map_congr_left fun f _ => ?_
    have : f.rs.map (Rel.shift 0) = f.rs := by
      conv => rhs; rw [← List.map_id f.rs]
      exact List.map_congr_left fun r _ => shift_zero r
    unfold Frg.mapR
    rw [this]; rfl
  have e2 : a.dfs.map (Df.shift 0) = a.dfs := by
    conv => rhs; rw [← List.map_id a.dfs]
    exact List.map_congr_left fun r _ => dshift_zero r
  show Prt.mk ([] ++ a.frs.map (Frg.mapR (Rel.shift 0))) ([] ++ a.dfs.map (Df.shift 0)) = a
  rw [e1, e2]; rfl
theorem join_nil (a : Prt) : joinU a .nil = a := by
  show Prt.mk (a.frs ++ []) (a.dfs ++ []) = a
  rw [List.append_nil, List.append_nil]
end Go.Proofs.YtmlomnhjbmocfaaDoor

/- obj.Check's answers, case by case. No program in sight. -/
namespace Go.Proofs.YtmlomnhjbmocfaaDoor

theorem ckPart_1 {p : Prt} (h : 60 < p.frs.length ∨ 60 < p.dfs.length) : ckPart p = 2 := by unfold ckPart; rw [if_pos h]
theorem ckPart_2 {p : Prt} (h : ¬ (60 < p.frs.length ∨ 60 < p.dfs.length)) (h1 : firstBad (p.frs.map (ckFrag p.frs.length)) ≠ 0) : ckPart p = firstBad (p.frs.map (ckFrag p.frs.length)) := by
  unfold ckPart; rw [if_neg h, if_pos h1]
theorem ckPart_3 {p : Prt} (h : ¬ (60 < p.frs.length ∨ 60 < p.dfs.length)) (h1 : firstBad (p.frs.map (ckFrag p.frs.length)) = 0) : ckPart p = firstBad (p.dfs.map (ckDef p.frs)) := by
  unfold ckPart; rw [if_neg h, if_neg (by simp [h1])]
theorem ckDef_1 {frs : List Frg} {d : Df} (h : nameB d.name = false) : ckDef frs d = 1 := by unfold ckDef; rw [if_pos h]
theorem ckDef_2 {frs : List Frg} {d : Df} (h : nameB d.name = true) (hk : d.kind = 1 ∨ d.kind = 2) (hf : d.frag < 0 ∨ (frs.length : Int) ≤ d.frag) : ckDef frs d = 5 := by
  unfold ckDef; rw [if_neg (by simp [h]), if_pos hk, if_pos hf]
theorem ckDef_3 {frs : List Frg} {d : Df} {i : Nat} {f : Frg} (h : nameB d.name = true) (hk : d.kind = 1 ∨ d.kind = 2) (hi : d.frag = i) (hf : frs[i]? = some f) (hb : d.at_ < 0 ∨ f.long < d.at_ ∨ d.size ≠ 0 ∨ d.align ≠ 0) : ckDef frs d = 3 := by
  have hl : i < frs.length := (List.getElem?_eq_some_iff.1 hf).1
  unfold ckDef; rw [if_neg (by simp [h]), if_pos hk, if_neg (by omega), hi, Int.toNat_natCast, hf]; exact if_pos hb
theorem ckDef_4 {frs : List Frg} {d : Df} {i : Nat} {f : Frg} (h : nameB d.name = true) (hk : d.kind = 1 ∨ d.kind = 2) (hi : d.frag = i) (hf : frs[i]? = some f) (hb : ¬ (d.at_ < 0 ∨ f.long < d.at_ ∨ d.size ≠ 0 ∨ d.align ≠ 0)) : ckDef frs d = 0 := by
  have hl : i < frs.length := (List.getElem?_eq_some_iff.1 hf).1
  unfold ckDef; rw [if_neg (by simp [h]), if_pos hk, if_neg (by omega), hi, Int.toNat_natCast, hf]; exact if_neg hb
theorem ckDef_5 {frs : List Frg} {d : Df} (h : nameB d.name = true) (hk : d.kind = 3) (hb : d.frag ≠ 0 ∨ d.at_ ≠ 0 ∨ d.size < 1 ∨ 64 < d.size ∨ alignB d.align = false) : ckDef frs d = 3 := by
  unfold ckDef; rw [if_neg (by simp [h]), if_neg (by omega), if_pos hk, if_pos hb]
theorem ckDef_6 {frs : List Frg} {d : Df} (h : nameB d.name = true) (hk : d.kind = 3) (hb : ¬ (d.frag ≠ 0 ∨ d.at_ ≠ 0 ∨ d.size < 1 ∨ 64 < d.size ∨ alignB d.align = false)) : ckDef frs d = 0 := by
  unfold ckDef; rw [if_neg (by simp [h]), if_neg (by omega), if_pos hk, if_neg hb]
theorem ckDef_7 {frs : List Frg} {d : Df} (h : nameB d.name = true) (hk : ¬ (d.kind = 1 ∨ d.kind = 2 ∨ d.kind = 3)) : ckDef frs d = 4 := by
  unfold ckDef; rw [if_neg (by simp [h]), if_neg (by omega), if_neg (by omega)]
end Go.Proofs.YtmlomnhjbmocfaaDoor

/- Right parts, dropped and joined, are right. No program in sight. -/
namespace Go.Proofs.YtmlomnhjbmocfaaDoor

structure Prt.Ok (p : Prt) : Prop where
  n1 : p.frs.length ≤ 60
  n2 : p.dfs.length ≤ 60
  fr : ∀ f ∈ p.frs, ckFrag p.frs.length f = 0
  df : ∀ d ∈ p.dfs, ckDef p.frs d = 0
theorem ok_iff (p : Prt) : ckPart p = 0 ↔ p.Ok := by
  constructor
  · intro h
    by_cases h1 : 60 < p.frs.length ∨ 60 < p.dfs.length
    · rw [ckPart_1 h1] at h; cases h
    · by_cases h2 : firstBad (p.frs.map (ckFrag p.frs.length)) = 0
      · rw [ckPart_3 h1 h2] at h
        exact ⟨by omega, by omega, fun f hf => firstBad_zero.1 h2 _ (List.mem_map_of_mem hf), fun d hd => firstBad_zero.1 h _ (List.mem_map_of_mem hd)⟩
      · rw [ckPart_2 h1 h2] at h; exact absurd h h2
  · rintro ⟨h1, h2, h3, h4⟩
    have e : firstBad (p.frs.map (ckFrag p.frs.length)) = 0 := firstBad_zero.2 fun e he => by
      obtain ⟨f, hf, rfl⟩ := List.mem_map.1 he
      exact h3 f hf
    rw [ckPart_3 (by omega) e]
    exact firstBad_zero.2 fun e he => by
      obtain ⟨f, hf, rfl⟩ := List.mem_map.1 he
      exact h4 f hf

theorem ckRel_zero {many nb last : Int} {r : Rel} (h : ckRel many nb last r = 0) : (r.name.size = 0 → -1 ≤ r.frag ∧ r.frag < many) ∧ (r.name.size ≠ 0 → r.frag = 0) := by
  unfold ckRel at h
  split at h
  · cases h
  · split at h
    · rename_i h1 h2
      split at h
      · cases h
      · exact ⟨fun _ => by omega, fun h3 => absurd h2 h3⟩
    · rename_i h1 h2
      split at h
      · cases h
      · rename_i h3
        exact ⟨fun h4 => absurd h4 h2, fun _ => by rcases Decidable.em (r.frag = 0) with e | e; · exact e
                                                   · exact absurd (Or.inr e) h3⟩
theorem ckRels_mem {many nb : Int} {l : List Rel} {last : Int} (h : ckRels many nb last l = 0) : ∀ r ∈ l, (r.name.size = 0 → -1 ≤ r.frag ∧ r.frag < many) ∧ (r.name.size ≠ 0 → r.frag = 0) := by
  induction l generalizing last with
  | nil => intro r hr; cases hr
  | cons a l ih =>
    rw [ckRels] at h
    split at h
    · rename_i h1; exact absurd h h1
    · rename_i h1
      intro r hr
      rcases List.mem_cons.1 hr with rfl | hr
      · exact ckRel_zero (Decidable.not_not.1 h1)
      · exact ih h r hr
theorem ckFrag_rels {many : Int} {f : Frg} (h : ckFrag many f = 0) : ckRels many f.bs.length 0 f.rs = 0 := by
  unfold ckFrag at h
  split at h
  · cases h
  · split at h
    · cases h
    · split at h
      · cases h
      · split at h
        · cases h
        · exact h
theorem ckDef_zero {frs : List Frg} {d : Df} (h : ckDef frs d = 0) : d.okIn frs.length := by
  unfold ckDef at h
  split at h
  · cases h
  · split at h
    · rename_i h1
      split at h
      · cases h
      · exact ⟨fun h3 => by omega, fun _ => by omega⟩
    · split at h
      · rename_i h3
        split at h
        · cases h
        · rename_i h4
          exact ⟨fun _ => by rcases Decidable.em (d.frag = 0) with e | e; · exact e
                             · exact absurd (Or.inl e) h4, fun h5 => absurd h3 h5⟩
      · cases h
theorem Prt.Ok.right {p : Prt} (h : p.Ok) : p.Right :=
  ⟨fun f hf r hr => (ckRels_mem (ckFrag_rels (h.fr f hf)) r hr).1, fun d hd => ckDef_zero (h.df d hd)⟩
theorem right_of {p : Prt} (h : ckPart p = 0) : p.Right := ((ok_iff p).1 h).right

/-- What may be done to places: only where nameless ones lead turns. -/
structure Turns (many many' : Int) (g : Rel → Rel) : Prop where
  same : ∀ r, (g r).at_ = r.at_ ∧ (g r).kind = r.kind ∧ (g r).name = r.name ∧ (g r).add = r.add
  named : ∀ r, r.name.size ≠ 0 → (g r).frag = r.frag
  bound : ∀ r, r.name.size = 0 → -1 ≤ r.frag → r.frag < many → -1 ≤ (g r).frag ∧ (g r).frag < many'
theorem ckRel_turn {many many' nb last : Int} {g : Rel → Rel} (hg : Turns many many' g) {r : Rel} (h : ckRel many nb last r = 0) : ckRel many' nb last (g r) = 0 := by
  obtain ⟨e1, e2, e3, e4⟩ := hg.same r
  unfold ckRel at h ⊢
  rw [e1, e2, e3, e4]
  split at h
  · cases h
  · rename_i h1
    rw [if_neg h1]
    split at h
    · rename_i h2
      rw [if_pos h2]
      split at h
      · cases h
      · have := hg.bound r h2 (by omega) (by omega)
        rw [if_neg (by omega)]
    · rename_i h2
      rw [if_neg h2, hg.named r h2]
      exact h
theorem ckRels_turn {many many' nb : Int} {g : Rel → Rel} (hg : Turns many many' g) {l : List Rel} {last : Int} (h : ckRels many nb last l = 0) : ckRels many' nb last (l.map g) = 0 := by
  induction l generalizing last with
  | nil => rfl
  | cons a l ih =>
    rw [ckRels] at h
    split at h
    · rename_i h1; exact absurd h h1
    · rename_i h1
      rw [List.map_cons, ckRels, ckRel_turn hg (by omega), if_neg (by simp), (hg.same a).1, (hg.same a).2.1]
      exact ih h
theorem ckFrag_turn {many many' : Int} {g : Rel → Rel} (hg : Turns many many' g) {f : Frg} (h : ckFrag many f = 0) : ckFrag many' (f.mapR g) = 0 := by
  have e : ∀ m : Int, ckFrag m (f.mapR g) = if f.sect < 1 ∨ 5 < f.sect ∨ alignB f.align = false then 3
      else if f.group.size ≠ 0 ∧ nameB f.group = false then 1
      else if 64 < f.bs.length ∨ 8 < f.rs.length then 2
      else if ¬ f.formed then 4
      else ckRels m f.bs.length 0 (f.rs.map g) := fun m => by
    unfold ckFrag Frg.formed Frg.mapR
    simp only [List.length_map]
  rw [e]
  unfold ckFrag at h
  split at h
  · cases h
  · rename_i h1
    rw [if_neg h1]
    split at h
    · cases h
    · rename_i h2
      rw [if_neg h2]
      split at h
      · cases h
      · rename_i h3
        rw [if_neg h3]
        split at h
        · cases h
        · rename_i h4
          rw [if_neg h4]
          exact ckRels_turn hg h
theorem turns_re {n n' : Nat} {to : List Int} (h : ∀ j, j < n → -1 ≤ to.getD j 0 ∧ to.getD j 0 < n') : Turns n n' (Rel.re to) := by
  refine ⟨fun r => ?_, fun r hr => ?_, fun r hr h1 h2 => ?_⟩
  · unfold Rel.re; split <;> exact ⟨rfl, rfl, rfl, rfl⟩
  · unfold Rel.re; rw [if_neg (fun hn => hr hn.1)]
  · exact re_ok h (r := r) (fun _ => ⟨h1, h2⟩) (by unfold Rel.re; split <;> exact hr)
theorem turns_shift (n m : Nat) : Turns n ((m + n : Nat) : Int) (Rel.shift m) := by
  refine ⟨fun r => ?_, fun r hr => ?_, fun r hr h1 h2 => ?_⟩
  · unfold Rel.shift; split <;> exact ⟨rfl, rfl, rfl, rfl⟩
  · unfold Rel.shift; rw [if_neg (fun hn => hr hn.1)]
  · exact shift_ok (r := r) (fun _ => ⟨h1, h2⟩) (by unfold Rel.shift; split <;> exact hr)
theorem turns_id {n n' : Nat} (h : n ≤ n') : Turns n n' id := ⟨fun _ => ⟨rfl, rfl, rfl, rfl⟩, fun _ _ => rfl, fun r _ h1 h2 => ⟨h1, by show r.frag < n'; omega⟩⟩
theorem mapR_id (f : Frg) : f.mapR id = f := by unfold Frg.mapR; rw [List.map_id]
theorem mapR_long (g : Rel → Rel) (f : Frg) : (f.mapR g).long = f.long := rfl
theorem ckDef_turn {frs frs' : List Frg} {d : Df} {t : Int} (h : ckDef frs d = 0) (h3 : d.kind = 3 → t = 0)
    (h2 : d.kind ≠ 3 → ∀ f, frs[d.frag.toNat]? = some f → 0 ≤ t ∧ t < (frs'.length : Int) ∧ ∃ f', frs'[t.toNat]? = some f' ∧ f'.long = f.long) : ckDef frs' { d with frag := t } = 0 := by
  unfold ckDef at h ⊢
  split at h
  · cases h
  · rename_i h0
    rw [if_neg h0]
    split at h
    · rename_i h1
      rw [if_pos h1]
      split at h
      · cases h
      · rename_i h4
        rcases hf : frs[d.frag.toNat]? with _ | f
        · rw [hf] at h; cases h
        · rw [hf] at h
          obtain ⟨ht0, ht1, f', hf', hl⟩ := h2 (by omega) f hf
          rw [if_neg (by simp only; omega)]
          show (match frs'[t.toNat]? with | some f => _ | none => _) = (0 : Int)
          rw [hf']
          show (if d.at_ < 0 ∨ f'.long < d.at_ ∨ d.size ≠ 0 ∨ d.align ≠ 0 then 3 else 0) = (0 : Int)
          rw [hl]
          exact h
    · rename_i h1
      rw [if_neg h1]
      split at h
      · rename_i h5
        rw [if_pos h5]
        split at h
        · cases h
        · rename_i h6
          rw [h3 h5]
          exact if_neg fun hn => h6 (by
            rcases hn with hn | hn
            · exact absurd rfl hn
            · exact .inr hn)
      · cases h
theorem keep_get (l : List ByteArray) {c : List Frg} {j : Nat} {f : Frg} (hf : c[j]? = some f) (ht : 0 ≤ (toOf l c).getD j 0) : (keepF l c)[((toOf l c).getD j 0).toNat]? = some f := by
  obtain ⟨hj, hv⟩ := List.getElem?_eq_some_iff.1 hf
  obtain ⟨c1, x, c2, rfl, rfl⟩ := split_at hj
  have hx : x = f := by simpa using hv
  subst hx
  rw [to_at] at ht ⊢
  by_cases hg : x.gone l = true
  · rw [if_pos hg] at ht; omega
  · rw [if_neg hg]
    have : keepF l (x :: c2) = x :: keepF l c2 := by simp [keepF, hg]
    rw [keepF_append, this]
    simp
theorem ok_drop {p : Prt} (h : p.Ok) (l : List ByteArray) : (dropP p l).Ok := by
  have hn := dropP_len p l
  refine ⟨by rw [hn]; exact Nat.le_trans (keepF_le _ _) h.n1, ?_, fun f hf => ?_, fun d hd => ?_⟩
  · refine Nat.le_trans (List.length_filter_le ..) ?_
    rw [List.length_map]; exact h.n2
  · rw [hn]
    rw [dropP_frs] at hf
    obtain ⟨x, hx, rfl⟩ := List.mem_map.1 hf
    exact ckFrag_turn (turns_re fun j hj => to_bound l hj) (h.fr x (List.mem_filter.1 hx).1)
  · rw [dropP_dfs] at hd
    obtain ⟨hd, h0⟩ := List.mem_filter.1 hd
    have h0 : 0 ≤ d.frag := by simpa using h0
    obtain ⟨x, hx, rfl⟩ := List.mem_map.1 hd
    have hc := h.df x hx
    obtain ⟨h1, h2⟩ := ckDef_zero hc
    have e : x.re (toOf l p.frs) = { x with frag := (x.re (toOf l p.frs)).frag } := by unfold Df.re; split <;> rfl
    rw [e]
    refine ckDef_turn hc (fun hk => ?_) (fun hk f hf => ?_)
    · rw [Df.re_common _ hk]; exact h1 hk
    · rw [Df.re_at hk rfl] at h0 ⊢
      obtain ⟨ha, hb⟩ := h2 hk
      have hbd := to_bound l (c := p.frs) (j := x.frag.toNat) (by omega)
      refine ⟨h0, by rw [hn]; exact hbd.2, f.mapR (Rel.re (toOf l p.frs)), ?_, rfl⟩
      rw [dropP_frs, List.getElem?_map, keep_get l hf h0]; rfl
theorem ok_add {a c : Prt} (ha : a.Ok) (hc : c.Ok) (hf : (addP a c).fits) : (addP a c).Ok := by
  have hn : (addP a c).frs.length = a.frs.length + c.frs.length := by simp [addP]
  refine ⟨hf.1, hf.2, fun f hf => ?_, fun d hd => ?_⟩
  · rw [hn]
    rcases List.mem_append.1 hf with hf | hf
    · have := ckFrag_turn (turns_id (n := a.frs.length) (n' := a.frs.length + c.frs.length) (by omega)) (ha.fr f hf)
      rwa [mapR_id] at this
    · obtain ⟨x, hx, rfl⟩ := List.mem_map.1 hf
      exact ckFrag_turn (turns_shift _ _) (hc.fr x hx)
  · rcases List.mem_append.1 hd with hd | hd
    · have hk := ha.df d hd
      obtain ⟨h1, h2⟩ := ckDef_zero hk
      refine ckDef_turn (t := d.frag) hk h1 (fun h3 f hf => ?_)
      obtain ⟨h4, h5⟩ := h2 h3
      refine ⟨h4, by rw [hn]; omega, f, ?_, rfl⟩
      show (a.frs ++ _)[d.frag.toNat]? = _
      rw [List.getElem?_append_left (by omega)]; exact hf
    · obtain ⟨x, hx, rfl⟩ := List.mem_map.1 hd
      have hk := hc.df x hx
      obtain ⟨h1, h2⟩ := ckDef_zero hk
      have e : x.shift a.frs.length = { x with frag := (x.shift a.frs.length).frag } := by unfold Df.shift; split <;> rfl
      rw [e]
      refine ckDef_turn hk (fun h3 => ?_) (fun h3 f hf => ?_)
      · rw [Df.shift_common _ h3]; exact h1 h3
      · have es : x.shift a.frs.length = { x with frag := x.frag + a.frs.length } := if_pos h3
        rw [es]
        obtain ⟨h4, h5⟩ := h2 h3
        refine ⟨by show 0 ≤ x.frag + a.frs.length; omega, by rw [hn]; show x.frag + a.frs.length < _; omega, f.mapR (Rel.shift a.frs.length), ?_, rfl⟩
        show (a.frs ++ c.frs.map _)[(x.frag + a.frs.length).toNat]? = _
        rw [List.getElem?_append_right (by omega), show (x.frag + a.frs.length).toNat - a.frs.length = x.frag.toNat by omega, List.getElem?_map, hf]; rfl
theorem ok_join {a b : Prt} (ha : a.Ok) (hb : b.Ok) (hf : (joinU a b).fits) : (joinU a b).Ok := ok_add ha (ok_drop hb _) hf
theorem ok_nil : Prt.nil.Ok := ⟨by simp [Prt.nil], by simp [Prt.nil], fun f hf => absurd hf (by simp [Prt.nil]), fun f hf => absurd hf (by simp [Prt.nil])⟩

theorem joinP_ok {a b : Prt} (ha : a.Ok) (hb : b.Ok) (hf : (joinU a b).fits) : joinP a b = (joinU a b, 0) := by
  unfold joinP
  rw [(ok_iff a).2 ha, (ok_iff b).2 hb, if_neg (by simp), if_neg (by simp), if_pos hf]
theorem joinP_full {a b : Prt} (ha : a.Ok) (hb : b.Ok) (hf : ¬ (joinU a b).fits) : joinP a b = (.nil, 10) := by
  unfold joinP
  rw [(ok_iff a).2 ha, (ok_iff b).2 hb, if_neg (by simp), if_neg (by simp), if_neg hf]
theorem joinP_zero {a b : Prt} (h : (joinP a b).2 = 0) : a.Ok ∧ b.Ok ∧ (joinU a b).fits ∧ joinP a b = (joinU a b, 0) := by
  by_cases h1 : ckPart a = 0
  · by_cases h2 : ckPart b = 0
    · by_cases h3 : (joinU a b).fits
      · exact ⟨(ok_iff a).1 h1, (ok_iff b).1 h2, h3, joinP_ok ((ok_iff a).1 h1) ((ok_iff b).1 h2) h3⟩
      · rw [joinP_full ((ok_iff a).1 h1) ((ok_iff b).1 h2) h3] at h; cases h
    · unfold joinP at h
      rw [if_neg (by simp [h1]), if_pos h2] at h
      exact absurd h h2
  · unfold joinP at h
    rw [if_pos h1] at h
    exact absurd h h1
theorem nil_joinP {a : Prt} (ha : a.Ok) : joinP .nil a = (a, 0) := by
  have e := nil_join ha.right
  rw [joinP_ok ok_nil ha (by rw [e]; exact ⟨ha.n1, ha.n2⟩), e]
theorem joinP_nil {a : Prt} (ha : a.Ok) : joinP a .nil = (a, 0) := by
  have e := join_nil a
  rw [joinP_ok ha ok_nil (by rw [e]; exact ⟨ha.n1, ha.n2⟩), e]
end Go.Proofs.YtmlomnhjbmocfaaDoor

/- names.Find: which definition counts; of two rows of definitions, one behind the other. No program in sight. -/
namespace Go.Proofs.YtmlomnhjbmocfaaDoor
open Go.RowKit

def Df.zero : Df := ⟨⟨#[]⟩, 0, 0, 0, 0, 0⟩
/-- One definition more: the one that counted up to there, and whether two were strong. -/
def findStep (s : ByteArray) (st : Df × Bool) (d : Df) : Df × Bool :=
  if st.2 then st else if d.name ≠ s then st
  else if d.kind = 1 ∧ st.1.kind = 1 then (.zero, true)
  else if st.1.kind = 0 ∨ d.kind = 1 ∨ (d.kind = 3 ∧ st.1.kind = 2) then (d, false)
  else if d.kind = 3 ∧ st.1.kind = 3 then ({ st.1 with size := max st.1.size d.size, align := max st.1.align d.align }, false)
  else st
def findEnd (st : Df × Bool) : Df × Int := if st.2 then (.zero, 6) else if st.1.kind = 0 then (.zero, 7) else (st.1, 0)
def findSt (s : ByteArray) (l : List Df) : Df × Bool := l.foldl (findStep s) (.zero, false)
def findL (l : List Df) (s : ByteArray) : Df × Int := findEnd (findSt s l)
def findP (p : Prt) (s : ByteArray) : Df × Int := if ckPart p ≠ 0 then (.zero, ckPart p) else findL p.dfs s

/-- What a state is: two strong ones, or nothing, or a definition of one of the three kinds. -/
def FSt (st : Df × Bool) : Prop := (st = (.zero, true)) ∨ (st = (.zero, false)) ∨ (st.2 = false ∧ (st.1.kind = 1 ∨ st.1.kind = 2 ∨ st.1.kind = 3))
theorem FSt.step {s : ByteArray} {st : Df × Bool} {d : Df} (h : FSt st) (hd : d.kind = 1 ∨ d.kind = 2 ∨ d.kind = 3) : FSt (findStep s st d) := by
  unfold findStep
  split
  · exact h
  · split
    · exact h
    · split
      · exact .inl rfl
      · split
        · exact .inr (.inr ⟨rfl, hd⟩)
        · split
          · rename_i h1 _ _ _ h5
            exact .inr (.inr ⟨rfl, .inr (.inr h5.2)⟩)
          · exact h
theorem FSt.fold {s : ByteArray} : ∀ {l : List Df} {st : Df × Bool}, FSt st → (∀ d ∈ l, d.kind = 1 ∨ d.kind = 2 ∨ d.kind = 3) → FSt (l.foldl (findStep s) st)
  | [], _, h, _ => h
  | d :: r, _, h, hl => FSt.fold (l := r) (h.step (hl d (by simp))) (fun d' hd' => hl d' (by simp [hd']))
theorem fst_zero : FSt (.zero, false) := .inr (.inl rfl)

/-- Two states, one behind the other. -/
def findComb (A C : Df × Bool) : Df × Bool :=
  if A.2 ∨ C.2 then (.zero, true) else if C.1.kind = 0 then A else if A.1.kind = 0 then C
  else if A.1.kind = 1 ∧ C.1.kind = 1 then (.zero, true)
  else if C.1.kind = 1 ∨ (C.1.kind = 3 ∧ A.1.kind = 2) then C
  else if C.1.kind = 3 ∧ A.1.kind = 3 then ({ A.1 with size := max A.1.size C.1.size, align := max A.1.align C.1.align }, false)
  else A
theorem comb_zero {A : Df × Bool} (h : FSt A) : findComb A (.zero, false) = A := by
  unfold findComb
  rcases h with rfl | rfl | ⟨h, _⟩
  · rfl
  · rfl
  · rw [if_neg (by simp [h]), if_pos (show (Df.zero, false).1.kind = 0 from rfl)]
theorem comb_step {s : ByteArray} {A C : Df × Bool} {d : Df} (hA : FSt A) (hC : FSt C) (hd : d.kind = 1 ∨ d.kind = 2 ∨ d.kind = 3) : findStep s (findComb A C) d = findComb A (findStep s C d) := by
  by_cases hn : d.name = s
  · rcases hA with rfl | rfl | ⟨a2, a1⟩
    · simp [findComb, findStep]
    · rcases hC with rfl | rfl | ⟨c2, c1⟩
      · simp [findComb, findStep]
      · rcases hd with hd | hd | hd <;> simp [findComb, findStep, hn, hd, Df.zero]
      · obtain ⟨c, t⟩ := C
        simp only at c2 c1
        subst c2
        rcases hd with hd | hd | hd <;> rcases c1 with c1 | c1 | c1 <;> simp [findComb, findStep, hn, hd, c1, Df.zero]
    · obtain ⟨a, t⟩ := A
      simp only at a2 a1
      subst a2
      rcases hC with rfl | rfl | ⟨c2, c1⟩
      · simp [findComb, findStep]
      · rcases hd with hd | hd | hd <;> rcases a1 with a1 | a1 | a1 <;> simp [findComb, findStep, hn, hd, a1, Df.zero]
      · obtain ⟨c, t⟩ := C
        simp only at c2 c1
        subst c2
        rcases hd with hd | hd | hd <;> rcases a1 with a1 | a1 | a1 <;> rcases c1 with c1 | c1 | c1 <;> simp [findComb, findStep, hn, hd, a1, c1, Int.max_assoc]
  · have h1 : findStep s C d = C := by unfold findStep; simp [hn]
    rw [h1]
    unfold findStep
    simp [hn]
theorem fold_comb {s : ByteArray} : ∀ {l : List Df} {A C : Df × Bool}, FSt A → FSt C → (∀ d ∈ l, d.kind = 1 ∨ d.kind = 2 ∨ d.kind = 3) → l.foldl (findStep s) (findComb A C) = findComb A (l.foldl (findStep s) C)
  | [], _, _, _, _, _ => rfl
  | d :: r, A, C, hA, hC, hl => by
    rw [List.foldl_cons, List.foldl_cons, comb_step hA hC (hl d (by simp))]
    exact fold_comb hA (hC.step (hl d (by simp))) (fun d' hd' => hl d' (by simp [hd']))
theorem findSt_append {s : ByteArray} {l m : List Df} (hl : ∀ d ∈ l, d.kind = 1 ∨ d.kind = 2 ∨ d.kind = 3) (hm : ∀ d ∈ m, d.kind = 1 ∨ d.kind = 2 ∨ d.kind = 3) : findSt s (l ++ m) = findComb (findSt s l) (findSt s m) := by
  unfold findSt
  have hA := FSt.fold (s := s) fst_zero hl
  rw [List.foldl_append]
  conv => lhs; rw [← comb_zero hA]
  exact fold_comb hA fst_zero hm

/-- A state, its fragment moved. -/
def shSt (n : Nat) (st : Df × Bool) : Df × Bool := (if st.1.kind = 0 then st.1 else st.1.shift n, st.2)
theorem shift_kind (n : Nat) (d : Df) : (d.shift n).kind = d.kind := by unfold Df.shift; split <;> rfl
theorem shift_name (n : Nat) (d : Df) : (d.shift n).name = d.name := by unfold Df.shift; split <;> rfl
theorem shift_size (n : Nat) (d : Df) : (d.shift n).size = d.size := by unfold Df.shift; split <;> rfl
theorem shift_align (n : Nat) (d : Df) : (d.shift n).align = d.align := by unfold Df.shift; split <;> rfl
theorem sh_step {s : ByteArray} {n : Nat} {st : Df × Bool} {d : Df} (hs : FSt st) (hd : d.kind = 1 ∨ d.kind = 2 ∨ d.kind = 3) : findStep s (shSt n st) (d.shift n) = shSt n (findStep s st d) := by
  by_cases hn : d.name = s
  · rcases hs with rfl | rfl | ⟨a2, a1⟩
    · simp [findStep, shSt]
    · have : (d.kind = 0) = False := by simp; omega
      rcases hd with hd | hd | hd <;> simp [findStep, shSt, shift_kind, shift_name, hn, hd, Df.zero]
    · obtain ⟨a, t⟩ := st
      simp only at a2 a1
      subst a2
      rcases hd with hd | hd | hd <;> rcases a1 with a1 | a1 | a1 <;> simp [findStep, shSt, shift_kind, shift_name, hn, hd, a1, Df.zero, Df.shift]
  · have h1 : findStep s st d = st := by unfold findStep; simp [hn]
    rw [h1]
    unfold findStep
    simp [shift_name, hn]
theorem findSt_shift {s : ByteArray} {n : Nat} {l : List Df} (hl : ∀ d ∈ l, d.kind = 1 ∨ d.kind = 2 ∨ d.kind = 3) : findSt s (l.map (Df.shift n)) = shSt n (findSt s l) := by
  have : ∀ (l : List Df) (st : Df × Bool), FSt st → (∀ d ∈ l, d.kind = 1 ∨ d.kind = 2 ∨ d.kind = 3) → (l.map (Df.shift n)).foldl (findStep s) (shSt n st) = shSt n (l.foldl (findStep s) st) := by
    intro l
    induction l with
    | nil => intro _ _ _; rfl
    | cons d r ih =>
      intro st hs hl
      rw [List.map_cons, List.foldl_cons, List.foldl_cons, sh_step hs (hl d (by simp))]
      exact ih _ (hs.step (hl d (by simp))) (fun d' hd' => hl d' (by simp [hd']))
  have h := this l (.zero, false) fst_zero hl
  have e : shSt n (.zero, false) = (.zero, false) := rfl
  rw [e] at h
  exact h

/-- What Find says of two parts joined, by what it says of each. -/
theorem find_joined {s : ByteArray} {n : Nat} {l m : List Df} (hl : ∀ d ∈ l, d.kind = 1 ∨ d.kind = 2 ∨ d.kind = 3) (hm : ∀ d ∈ m, d.kind = 1 ∨ d.kind = 2 ∨ d.kind = 3) :
    findL (l ++ m.map (Df.shift n)) s = findEnd (findComb (findSt s l) (shSt n (findSt s m))) ∧ FSt (findSt s l) ∧ FSt (findSt s m) := by
  refine ⟨?_, FSt.fold fst_zero hl, FSt.fold fst_zero hm⟩
  unfold findL
  rw [findSt_append hl (by
    intro d hd
    obtain ⟨d', h1, rfl⟩ := List.mem_map.1 hd
    rw [shift_kind]; exact hm d' h1), findSt_shift hm]
end Go.Proofs.YtmlomnhjbmocfaaDoor

/- Plans as plain data, and what plan.Check says of them. No program in sight. -/
namespace Go.Proofs.YtmlomnhjbmocfaaDoor
open Go.RowKit

structure Nd where
  leaf : Int
  left : Int
  right : Int
deriving DecidableEq

def Nd.cells (x : Nd) : List Value := [.int .i64 x.leaf, .int .i64 x.left, .int .i64 x.right]
def ndCells (l : List Nd) : List Value := l.flatMap Nd.cells
theorem Nd.cells_len (x : Nd) : x.cells.length = 3 := rfl
theorem ndCells_at {l : List Nd} {k : Nat} {x : Nd} (h : l[k]? = some x) (j : Nat) (hj : j < 3) : (ndCells l)[k * 3 + j]? = x.cells[j]? := flatMap_get Nd.cells_len l k j x hj h
theorem ndCells_len (l : List Nd) : (ndCells l).length = l.length * 3 := flatMap_len Nd.cells_len l
theorem ndCells_append (l m : List Nd) : ndCells (l ++ m) = ndCells l ++ ndCells m := by unfold ndCells; rw [List.flatMap_append]

def Nd.bad (x : Nd) (i : Nat) (parts : Int) : Prop :=
  if 0 ≤ x.leaf then parts ≤ x.leaf ∨ x.left ≠ 0 ∨ x.right ≠ 0
  else x.leaf ≠ -1 ∨ x.left < 0 ∨ (i : Int) ≤ x.left ∨ x.right < 0 ∨ (i : Int) ≤ x.right

theorem Nd.bad_leaf {x : Nd} {i : Nat} {parts : Int} (h : 0 ≤ x.leaf) (hb : parts ≤ x.leaf ∨ x.left ≠ 0 ∨ x.right ≠ 0) : x.bad i parts := by unfold Nd.bad; rw [if_pos h]; exact hb
theorem Nd.bad_node {x : Nd} {i : Nat} {parts : Int} (h : x.leaf < 0) (hb : x.leaf ≠ -1 ∨ x.left < 0 ∨ (i : Int) ≤ x.left ∨ x.right < 0 ∨ (i : Int) ≤ x.right) : x.bad i parts := by unfold Nd.bad; rw [if_neg (by omega)]; exact hb
theorem Nd.good_leaf {x : Nd} {i : Nat} {parts : Int} (h : 0 ≤ x.leaf) (h1 : x.leaf < parts) (h2 : x.left = 0) (h3 : x.right = 0) : ¬ x.bad i parts := by unfold Nd.bad; rw [if_pos h]; omega
theorem Nd.good_node {x : Nd} {i : Nat} {parts : Int} (h : x.leaf = -1) (h1 : 0 ≤ x.left) (h2 : x.left < i) (h3 : 0 ≤ x.right) (h4 : x.right < i) : ¬ x.bad i parts := by unfold Nd.bad; rw [if_neg (by omega)]; omega

/-- How often a node has node j below it. -/
def Nd.cnt (x : Nd) (j : Nat) : Int := if 0 ≤ x.leaf then 0 else (if x.left = j then 1 else 0) + (if x.right = j then 1 else 0)
def refs : List Nd → Nat → Int
  | [], _ => 0
  | x :: r, j => x.cnt j + refs r j
theorem refs_append (l m : List Nd) (j : Nat) : refs (l ++ m) j = refs l j + refs m j := by
  induction l with
  | nil => simp [refs]
  | cons x r ih => simp only [List.cons_append, refs, ih]; omega
theorem refs_step {l : List Nd} {k : Nat} {x : Nd} (h : l[k]? = some x) (j : Nat) : refs (l.take (k + 1)) j = refs (l.take k) j + x.cnt j := by
  obtain ⟨hk, rfl⟩ := List.getElem?_eq_some_iff.1 h
  rw [List.take_succ_eq_append_getElem hk, refs_append]
  simp [refs]
theorem cnt_bounds (x : Nd) (j : Nat) : 0 ≤ x.cnt j ∧ x.cnt j ≤ 2 := by
  unfold Nd.cnt; repeat' split <;> omega
theorem refs_bounds (l : List Nd) (j : Nat) : 0 ≤ refs l j ∧ refs l j ≤ 2 * l.length := by
  induction l with
  | nil => simp [refs]
  | cons x r ih => have := cnt_bounds x j; simp only [refs, List.length_cons]; omega

/-- How many leaves are below a node, and from which one on. -/
def leavesS (l : List Nd) (i : Nat) : Int × Int :=
  match l[i]? with
  | none => (-1, 0)
  | some x =>
    if 0 ≤ x.leaf then (x.leaf, 1)
    else if h : x.left.toNat < i ∧ x.right.toNat < i then
      let a := leavesS l x.left.toNat
      let b := leavesS l x.right.toNat
      if a.1 < 0 ∨ b.1 < 0 ∨ a.1 + a.2 ≠ b.1 then (-1, 0) else (a.1, a.2 + b.2)
    else (-1, 0)
termination_by i
decreasing_by
  · exact h.1
  · exact h.2

theorem leavesS_leaf {l : List Nd} {i : Nat} {x : Nd} (h : l[i]? = some x) (h0 : 0 ≤ x.leaf) : leavesS l i = (x.leaf, 1) := by
  rw [leavesS]; simp only [h]; rw [if_pos h0]
theorem leavesS_node {l : List Nd} {i a b : Nat} {x : Nd} (h : l[i]? = some x) (h0 : x.leaf < 0) (ha : x.left = a) (hb : x.right = b) (hai : a < i) (hbi : b < i) :
    leavesS l i = if (leavesS l a).1 < 0 ∨ (leavesS l b).1 < 0 ∨ (leavesS l a).1 + (leavesS l a).2 ≠ (leavesS l b).1 then (-1, 0) else ((leavesS l a).1, (leavesS l a).2 + (leavesS l b).2) := by
  rw [leavesS]; simp only [h]; rw [if_neg (by omega), ha, hb]
  rw [dif_pos ⟨by simpa using hai, by simpa using hbi⟩]
  simp

/-- Every node has nodes below it that stand ahead of it. -/
def Falls (l : List Nd) (parts : Int) : Prop := ∀ (i : Nat) x, l[i]? = some x → ¬ x.bad i parts

theorem leavesS_bounds {l : List Nd} {parts : Int} (hf : Falls l parts) (hp : parts ≤ 1000) : ∀ i, i < 40 → -1 ≤ (leavesS l i).1 ∧ (leavesS l i).1 ≤ 1000 ∧ 0 ≤ (leavesS l i).2 ∧ (leavesS l i).2 ≤ 2 ^ i := by
  intro i
  induction i using Nat.strongRecOn with
  | _ i ih =>
    intro hi
    rcases hx : l[i]? with _ | x
    · rw [leavesS]; simp only [hx]; simp
      exact Int.le_of_lt (Int.pow_pos (by omega))
    · have h1 := hf i x hx
      have hpos : (1 : Int) ≤ 2 ^ i := by have := @Int.pow_pos 2 i (by omega); omega
      by_cases h0 : 0 ≤ x.leaf
      · rw [leavesS_leaf hx h0]
        unfold Nd.bad at h1; rw [if_pos h0] at h1
        simp; omega
      · unfold Nd.bad at h1; rw [if_neg h0] at h1
        obtain ⟨a, ha⟩ : ∃ a : Nat, x.left = a := ⟨x.left.toNat, by omega⟩
        obtain ⟨b, hb⟩ : ∃ b : Nat, x.right = b := ⟨x.right.toNat, by omega⟩
        rw [leavesS_node hx (by omega) ha hb (by omega) (by omega)]
        have A := ih a (by omega) (by omega)
        have B := ih b (by omega) (by omega)
        have pa : (2 : Int) ^ a ≤ 2 ^ (i - 1) := by exact_mod_cast Nat.pow_le_pow_right (by omega) (by omega : a ≤ i - 1)
        have pb : (2 : Int) ^ b ≤ 2 ^ (i - 1) := by exact_mod_cast Nat.pow_le_pow_right (by omega) (by omega : b ≤ i - 1)
        have pi : (2 : Int) ^ i = 2 * 2 ^ (i - 1) := by
          have : i = (i - 1) + 1 := by omega
          conv => lhs; rw [this, Int.pow_succ]
          omega
        split
        · simp; omega
        · simp; omega

open Classical in
/-- What plan.Check answers. -/
noncomputable def ckPlan (l : List Nd) (parts : Int) : Int :=
  if parts < 1 ∨ 12 < parts then 3 else if 23 < l.length then 2 else if l.length = 0 then 4
  else if ¬ Falls l parts then 3 else if ∃ i, i < l.length ∧ refs l i ≠ (if i + 1 < l.length then 1 else 0) then 4
  else if leavesS l (l.length - 1) ≠ (0, parts) then 4 else 0

section
variable {l : List Nd} {parts : Int}
theorem ckPlan_range (h : parts < 1 ∨ 12 < parts) : ckPlan l parts = 3 := by unfold ckPlan; rw [if_pos h]
theorem ckPlan_many (h : ¬ (parts < 1 ∨ 12 < parts)) (h1 : 23 < (l.length : Int)) : ckPlan l parts = 2 := by unfold ckPlan; rw [if_neg h, if_pos (by omega)]
theorem ckPlan_none (h : ¬ (parts < 1 ∨ 12 < parts)) (h1 : l.length = 0) : ckPlan l parts = 4 := by unfold ckPlan; rw [if_neg h, if_neg (by omega), if_pos h1]
theorem ckPlan_bad (h : ¬ (parts < 1 ∨ 12 < parts)) (h1 : l.length ≤ 23) (h2 : l.length ≠ 0) {i : Nat} {x : Nd} (hx : l[i]? = some x) (hb : x.bad i parts) : ckPlan l parts = 3 := by
  unfold ckPlan; rw [if_neg h, if_neg (by omega), if_neg h2, if_pos (fun hf => hf i x hx hb)]
theorem ckPlan_form (h : ¬ (parts < 1 ∨ 12 < parts)) (h1 : l.length ≤ 23) (h2 : l.length ≠ 0) (hf : Falls l parts) {i : Nat} (hi : i < l.length) (hr : refs l i ≠ (if i + 1 < l.length then 1 else 0)) : ckPlan l parts = 4 := by
  unfold ckPlan; rw [if_neg h, if_neg (by omega), if_neg h2, if_neg (fun hn => hn hf), if_pos ⟨i, hi, hr⟩]
theorem ckPlan_leaves (h : ¬ (parts < 1 ∨ 12 < parts)) (h1 : l.length ≤ 23) (h2 : l.length ≠ 0) (hf : Falls l parts) (hr : ∀ i, i < l.length → refs l i = (if i + 1 < l.length then 1 else 0))
    (hl : leavesS l (l.length - 1) ≠ (0, parts)) : ckPlan l parts = 4 := by
  unfold ckPlan; rw [if_neg h, if_neg (by omega), if_neg h2, if_neg (fun hn => hn hf), if_neg (fun ⟨i, hi, hn⟩ => hn (hr i hi)), if_pos hl]
theorem ckPlan_ok (h : ¬ (parts < 1 ∨ 12 < parts)) (h1 : l.length ≤ 23) (h2 : l.length ≠ 0) (hf : Falls l parts) (hr : ∀ i, i < l.length → refs l i = (if i + 1 < l.length then 1 else 0))
    (hl : leavesS l (l.length - 1) = (0, parts)) : ckPlan l parts = 0 := by
  unfold ckPlan; rw [if_neg h, if_neg (by omega), if_neg h2, if_neg (fun hn => hn hf), if_neg (fun ⟨i, hi, hn⟩ => hn (hr i hi)), if_neg (fun hn => hn hl)]
theorem ckPlan_zero (h : ckPlan l parts = 0) : 1 ≤ parts ∧ parts ≤ 12 ∧ l.length ≤ 23 ∧ l.length ≠ 0 ∧ Falls l parts ∧ (∀ i, i < l.length → refs l i = (if i + 1 < l.length then 1 else 0)) ∧ leavesS l (l.length - 1) = (0, parts) := by
  unfold ckPlan at h
  split at h
  · simp at h
  split at h
  · simp at h
  split at h
  · simp at h
  split at h
  · simp at h
  split at h
  · simp at h
  split at h
  · simp at h
  rename_i h1 h2 h3 h4 h5 h6
  refine ⟨by omega, by omega, by omega, h3, Classical.not_not.1 h4, fun i hi => ?_, Classical.not_not.1 h6⟩
  exact Classical.byContradiction fun hn => h5 ⟨i, hi, hn⟩
end

/-- The block g has n counts, f's. -/
def cntCells (n : Nat) (f : Nat → Int) : Array Value := ((List.range n).map fun j => Value.int .i64 (f j)).toArray
theorem cntCells_get {n : Nat} {f : Nat → Int} {j : Nat} (h : j < n) : (cntCells n f)[j]? = some (.int .i64 (f j)) := by
  unfold cntCells; simp [h]
theorem cntCells_size (n : Nat) (f : Nat → Int) : (cntCells n f).size = n := by unfold cntCells; simp
theorem cntCells_set {n : Nat} {f f' : Nat → Int} {a : Nat} (h : ∀ j, f' j = if j = a then f a + 1 else f j) : (cntCells n f).setIfInBounds a (.int .i64 (f a + 1)) = cntCells n f' := by
  apply Array.ext_getElem?
  intro i
  rw [Array.getElem?_setIfInBounds, cntCells_size]
  rcases Nat.lt_or_ge i n with hi | hi
  · rw [cntCells_get hi, cntCells_get hi, h i]
    split
    · rename_i e; subst e; rw [if_pos hi, if_pos rfl]
    · rename_i e; rw [if_neg (fun e' => e e'.symm)]
  · have e1 : (cntCells n f')[i]? = none := Array.getElem?_eq_none (by rw [cntCells_size]; exact hi)
    have e2 : (cntCells n f)[i]? = none := Array.getElem?_eq_none (by rw [cntCells_size]; exact hi)
    rw [e1, e2]
    split
    · rename_i e; subst e; rw [if_neg (by omega)]
    · rfl
end Go.Proofs.YtmlomnhjbmocfaaDoor

/- Trees of parts, and the plan that each is. No program in sight. -/
namespace Go.Proofs.YtmlomnhjbmocfaaDoor

inductive Tr where
  | one : Tr
  | two : Tr → Tr → Tr
def Tr.leaves : Tr → Nat
  | .one => 1
  | .two a b => a.leaves + b.leaves
def Tr.size : Tr → Nat
  | .one => 1
  | .two a b => a.size + b.size + 1
def Tr.flat : Tr → Nat → Int → List Nd
  | .one, _, f => [⟨f, 0, 0⟩]
  | .two x y, b, f => x.flat b f ++ y.flat (b + x.size) (f + x.leaves) ++ [⟨-1, ((b + x.size : Nat) : Int) - 1, ((b + x.size + y.size : Nat) : Int) - 1⟩]
theorem Tr.leaves_pos : ∀ t : Tr, 1 ≤ t.leaves
  | .one => Nat.le_refl _
  | .two a b => by have := Tr.leaves_pos a; simp [Tr.leaves]; omega
theorem Tr.size_eq : ∀ t : Tr, t.size + 1 = 2 * t.leaves
  | .one => rfl
  | .two a b => by have := Tr.size_eq a; have := Tr.size_eq b; simp [Tr.leaves, Tr.size]; omega
theorem Tr.flat_len : ∀ (t : Tr) (b : Nat) (f : Int), (t.flat b f).length = t.size
  | .one, _, _ => rfl
  | .two x y, b, f => by simp [Tr.flat, Tr.size, Tr.flat_len x, Tr.flat_len y]; omega

/-- The tree that picks make. -/
def growT (p : Nat → Int) (n next : Nat) : Tr :=
  if h : n ≤ 1 then .one
  else .two (growT p ((p next % ((n - 1 : Nat) : Int)).toNat + 1) (next + 1)) (growT p (n - (p next % ((n - 1 : Nat) : Int)).toNat - 1) (next + 1 + (p next % ((n - 1 : Nat) : Int)).toNat))
termination_by n
decreasing_by
  · have := Int.emod_lt_of_pos (p next) (show (0 : Int) < ((n - 1 : Nat) : Int) by omega)
    have := Int.emod_nonneg (p next) (show ((n - 1 : Nat) : Int) ≠ 0 by omega)
    omega
  · omega

theorem growT_one (p : Nat → Int) (next : Nat) : growT p 1 next = .one := by rw [growT, dif_pos (by omega)]
theorem growT_two {p : Nat → Int} {n next k : Nat} (h : 2 ≤ n) (hk : p next % ((n - 1 : Nat) : Int) = k) : growT p n next = .two (growT p (k + 1) (next + 1)) (growT p (n - k - 1) (next + 1 + k)) := by
  rw [growT, dif_neg (by omega), hk]; simp
theorem pick_bounds (p : Nat → Int) (next : Nat) {n : Nat} (h : 2 ≤ n) : ∃ k : Nat, p next % ((n - 1 : Nat) : Int) = k ∧ k + 1 < n := by
  have h1 := Int.emod_lt_of_pos (p next) (show (0 : Int) < ((n - 1 : Nat) : Int) by omega)
  have h2 := Int.emod_nonneg (p next) (show ((n - 1 : Nat) : Int) ≠ 0 by omega)
  exact ⟨(p next % ((n - 1 : Nat) : Int)).toNat, by omega, by omega⟩
theorem growT_leaves (p : Nat → Int) : ∀ n next, 1 ≤ n → (growT p n next).leaves = n := by
  intro n
  induction n using Nat.strongRecOn with
  | _ n ih =>
    intro next hn
    by_cases h1 : n = 1
    · subst h1; rw [growT_one]; rfl
    · obtain ⟨k, hk, hkn⟩ := pick_bounds p next (show 2 ≤ n by omega)
      rw [growT_two (by omega) hk, Tr.leaves, ih _ (by omega) _ (by omega), ih _ (by omega) _ (by omega)]
      omega
/-- Only the picks that are wanted count. -/
theorem growT_same (p q : Nat → Int) : ∀ n next, 1 ≤ n → (∀ j, next ≤ j → j + 1 < next + n → p j = q j) → growT p n next = growT q n next := by
  intro n
  induction n using Nat.strongRecOn with
  | _ n ih =>
    intro next hn h
    by_cases h1 : n = 1
    · subst h1; rw [growT_one, growT_one]
    · obtain ⟨k, hk, hkn⟩ := pick_bounds p next (show 2 ≤ n by omega)
      have hk' := hk
      rw [h next (by omega) (by omega)] at hk'
      rw [growT_two (by omega) hk, growT_two (by omega) hk']
      rw [ih _ (by omega) _ (by omega) fun j h2 h3 => h j (by omega) (by omega), ih _ (by omega) _ (by omega) fun j h2 h3 => h j (by omega) (by omega)]
end Go.Proofs.YtmlomnhjbmocfaaDoor

/- A tree's plan is a plan. No program in sight. -/
namespace Go.Proofs.YtmlomnhjbmocfaaDoor

theorem Tr.size_pos (t : Tr) : 1 ≤ t.size := by have := t.size_eq; have := t.leaves_pos; omega

/-- Every node of a tree's plan that stands at b + i is right. -/
theorem Tr.falls : ∀ (t : Tr) (b : Nat) (f parts : Int), 0 ≤ f → f + t.leaves ≤ parts → ∀ (i : Nat) (x : Nd), (t.flat b f)[i]? = some x → ¬ x.bad (b + i) parts
  | .one, b, f, parts, h0, h1, i, x, hx => by
    simp only [Tr.flat] at hx
    rcases i with _ | i
    · simp at hx; subst hx
      simp only [Tr.leaves] at h1
      exact Nd.good_leaf (by simpa using h0) (by show f < parts; omega) rfl rfl
    · simp at hx
  | .two u v, b, f, parts, h0, h1, i, x, hx => by
    have lu := u.flat_len b f
    have lv := v.flat_len (b + u.size) (f + u.leaves)
    have pu := u.size_pos
    have pv := v.size_pos
    simp only [Tr.leaves] at h1
    simp only [Tr.flat] at hx
    rcases Nat.lt_or_ge i (u.size + v.size) with hi | hi
    · rw [List.getElem?_append_left (by rw [List.length_append, lu, lv]; exact hi)] at hx
      rcases Nat.lt_or_ge i u.size with hi2 | hi2
      · rw [List.getElem?_append_left (by rw [lu]; exact hi2)] at hx
        exact u.falls b f parts h0 (by omega) i x hx
      · rw [List.getElem?_append_right (by rw [lu]; exact hi2), lu] at hx
        have := v.falls (b + u.size) (f + u.leaves) parts (by omega) (by omega) _ x hx
        rwa [show b + u.size + (i - u.size) = b + i by omega] at this
    · rw [List.getElem?_append_right (by rw [List.length_append, lu, lv]; exact hi), List.length_append, lu, lv] at hx
      rcases hj : i - (u.size + v.size) with _ | j
      · rw [hj] at hx
        simp at hx; subst hx
        refine Nd.good_node rfl ?_ ?_ ?_ ?_ <;> dsimp only <;> omega
      · rw [hj] at hx; simp at hx

/-- How often each node is below another one, in a tree's plan: once, but the last one. -/
theorem Tr.refs : ∀ (t : Tr) (b : Nat) (f : Int) (j : Nat), 0 ≤ f → Go.Proofs.YtmlomnhjbmocfaaDoor.refs (t.flat b f) j = if b ≤ j ∧ j + 1 < b + t.size then 1 else 0
  | .one, b, f, j, h0 => by
    rw [if_neg (by simp only [Tr.size]; omega)]
    simp only [Tr.flat, Go.Proofs.YtmlomnhjbmocfaaDoor.refs, Nd.cnt]
    rw [if_pos h0]; rfl
  | .two u v, b, f, j, h0 => by
    have pu := u.size_pos
    have pv := v.size_pos
    have hu := u.refs b f j h0
    have hv := v.refs (b + u.size) (f + u.leaves) j (by omega)
    have hx : (⟨-1, ((b + u.size : Nat) : Int) - 1, ((b + u.size + v.size : Nat) : Int) - 1⟩ : Nd).cnt j = (if ((b + u.size : Nat) : Int) - 1 = j then 1 else 0) + (if ((b + u.size + v.size : Nat) : Int) - 1 = j then 1 else 0) := by
      unfold Nd.cnt; rw [if_neg (by dsimp only; omega)]
    have hs : Go.Proofs.YtmlomnhjbmocfaaDoor.refs ((Tr.two u v).flat b f) j = Go.Proofs.YtmlomnhjbmocfaaDoor.refs (u.flat b f) j + Go.Proofs.YtmlomnhjbmocfaaDoor.refs (v.flat (b + u.size) (f + u.leaves)) j + ((⟨-1, ((b + u.size : Nat) : Int) - 1, ((b + u.size + v.size : Nat) : Int) - 1⟩ : Nd).cnt j + 0) := by
      simp only [Tr.flat, refs_append, Go.Proofs.YtmlomnhjbmocfaaDoor.refs]
    rw [hs, hu, hv, hx]
    have hsz : (Tr.two u v).size = u.size + v.size + 1 := rfl
    by_cases c5 : b ≤ j ∧ j + 1 < b + (Tr.two u v).size
    · rw [if_pos c5]
      rw [hsz] at c5
      repeat' split
      all_goals omega
    · rw [if_neg c5]
      rw [hsz] at c5
      repeat' split
      all_goals omega

/-- A node's leaves. -/
theorem Tr.leavesS : ∀ (t : Tr) (pre post : List Nd) (f : Int), 0 ≤ f → Go.Proofs.YtmlomnhjbmocfaaDoor.leavesS (pre ++ t.flat pre.length f ++ post) (pre.length + t.size - 1) = (f, (t.leaves : Int))
  | .one, pre, post, f, h0 => by
    have := leavesS_leaf (l := pre ++ Tr.one.flat pre.length f ++ post) (i := pre.length + Tr.one.size - 1) (x := ⟨f, 0, 0⟩) (by simp [Tr.flat, Tr.size]) h0
    rw [this]; rfl
  | .two u v, pre, post, f, h0 => by
    have lu := u.flat_len pre.length f
    have lv := v.flat_len (pre.length + u.size) (f + u.leaves)
    have pu := u.size_pos
    have pv := v.size_pos
    have hpu : (pre ++ u.flat pre.length f).length = pre.length + u.size := by rw [List.length_append, lu]
    obtain ⟨X, hX⟩ : ∃ X : Nd, (⟨-1, ((pre.length + u.size : Nat) : Int) - 1, ((pre.length + u.size + v.size : Nat) : Int) - 1⟩ : Nd) = X := ⟨_, rfl⟩
    have hl : pre ++ (Tr.two u v).flat pre.length f ++ post = (pre ++ u.flat pre.length f ++ v.flat (pre.length + u.size) (f + u.leaves)) ++ (X :: post) := by
      simp only [Tr.flat, hX]; simp
    have A := u.leavesS pre (v.flat (pre.length + u.size) (f + u.leaves) ++ (X :: post)) f h0
    have B := v.leavesS (pre ++ u.flat pre.length f) (X :: post) (f + u.leaves) (by omega)
    rw [hpu] at B
    rw [← List.append_assoc] at A
    rw [hl]
    have hx : ((pre ++ u.flat pre.length f ++ v.flat (pre.length + u.size) (f + u.leaves)) ++ (X :: post))[pre.length + (Tr.two u v).size - 1]? = some X := by
      rw [List.getElem?_append_right (by rw [List.length_append, hpu, lv]; simp only [Tr.size]; omega)]
      rw [List.length_append, hpu, lv]
      simp only [Tr.size]
      rw [show pre.length + (u.size + v.size + 1) - 1 - (pre.length + u.size + v.size) = 0 by omega]
      rfl
    rw [leavesS_node (a := pre.length + u.size - 1) (b := pre.length + u.size + v.size - 1) hx (by rw [← hX]; show (-1 : Int) < 0; omega) (by rw [← hX]; dsimp only; omega) (by rw [← hX]; dsimp only; omega) (by simp only [Tr.size]; omega) (by simp only [Tr.size]; omega)]
    rw [A, B]
    simp only [Tr.leaves]
    rw [if_neg (by omega)]
    simp

theorem Tr.plan (t : Tr) (h : t.leaves ≤ 12) : ckPlan (t.flat 0 0) t.leaves = 0 := by
  have p1 := t.leaves_pos
  have p2 := t.size_eq
  have pl := t.flat_len 0 0
  refine ckPlan_ok (by omega) (by omega) (by omega) (fun i x hx => ?_) (fun i hi => ?_) ?_
  · have := t.falls 0 0 t.leaves (by omega) (by omega) i x hx
    rwa [Nat.zero_add] at this
  · rw [t.refs 0 0 i (by omega), pl]
    simp
  · have := t.leavesS [] [] 0 (by omega)
    simp only [List.nil_append, List.append_nil, List.length_nil, Nat.zero_add] at this
    rw [pl]
    exact this

/-- For more parts it is none. -/
theorem Tr.plan_more (t : Tr) (h : t.leaves ≤ 12) : ckPlan (t.flat 0 0) ((t.leaves : Int) + 1) ≠ 0 := by
  intro h0
  have hz := (ckPlan_zero h0).2.2.2.2.2.2
  have hz' := (ckPlan_zero (t.plan h)).2.2.2.2.2.2
  rw [hz'] at hz
  have := congrArg Prod.snd hz
  simp at this
  omega

/-- Without its last node it is none. -/
theorem Tr.plan_less (t : Tr) (h : t.leaves ≤ 12) : ckPlan ((t.flat 0 0).take ((t.flat 0 0).length - 1)) t.leaves ≠ 0 := by
  intro h0
  have pl := t.flat_len 0 0
  have hz := ckPlan_zero h0
  obtain ⟨_, _, _, hne, _, hr, hlv⟩ := hz
  rcases t with _ | ⟨u, v⟩
  · simp [Tr.flat] at hne
  · have pu := u.size_pos
    have pv := v.size_pos
    have lu := u.flat_len 0 0
    have lv := v.flat_len (0 + u.size) (0 + u.leaves)
    have e : ((Tr.two u v).flat 0 0).take (((Tr.two u v).flat 0 0).length - 1) = u.flat 0 0 ++ v.flat (0 + u.size) (0 + u.leaves) := by
      simp only [Tr.flat]
      rw [List.take_append_of_le_length (by simp), List.take_of_length_le (by simp)]
    rw [e] at hr
    have := hr (u.size - 1) (by rw [List.length_append, lu, lv]; omega)
    rw [refs_append, u.refs 0 0 _ (by omega), v.refs _ _ _ (by omega), List.length_append, lu, lv, if_neg (by omega), if_neg (by omega), if_pos (by omega)] at this
    omega
end Go.Proofs.YtmlomnhjbmocfaaDoor

/- What comes of a plan: the parts joined, whatever the plan. No program in sight. -/
namespace Go.Proofs.YtmlomnhjbmocfaaDoor

/-- What each node is, from the k-th on, where those ahead of it are 'out'. -/
def evalUp (parts : List Prt) : List Prt → List Nd → List Prt × Int
  | out, [] => (out, 0)
  | out, x :: r =>
    if 0 ≤ x.leaf then evalUp parts (out ++ [parts.getD x.leaf.toNat .nil]) r
    else if (joinP (out.getD x.left.toNat .nil) (out.getD x.right.toNat .nil)).2 ≠ 0 then ([], (joinP (out.getD x.left.toNat .nil) (out.getD x.right.toNat .nil)).2)
    else evalUp parts (out ++ [(joinP (out.getD x.left.toNat .nil) (out.getD x.right.toNat .nil)).1]) r
theorem evalUp_leaf {parts out : List Prt} {x : Nd} {r : List Nd} (h : 0 ≤ x.leaf) : evalUp parts out (x :: r) = evalUp parts (out ++ [parts.getD x.leaf.toNat .nil]) r := by rw [evalUp, if_pos h]
theorem evalUp_bad {parts out : List Prt} {x : Nd} {r : List Nd} (h : ¬ 0 ≤ x.leaf) (hj : (joinP (out.getD x.left.toNat .nil) (out.getD x.right.toNat .nil)).2 ≠ 0) :
    evalUp parts out (x :: r) = ([], (joinP (out.getD x.left.toNat .nil) (out.getD x.right.toNat .nil)).2) := by rw [evalUp, if_neg h, if_pos hj]
theorem evalUp_ok {parts out : List Prt} {x : Nd} {r : List Nd} (h : ¬ 0 ≤ x.leaf) (hj : (joinP (out.getD x.left.toNat .nil) (out.getD x.right.toNat .nil)).2 = 0) :
    evalUp parts out (x :: r) = evalUp parts (out ++ [(joinP (out.getD x.left.toNat .nil) (out.getD x.right.toNat .nil)).1]) r := by rw [evalUp, if_neg h, if_neg (fun hn => hn hj)]
noncomputable def evalRes (l : List Nd) (parts : List Prt) : List Prt × Int :=
  if ckPlan l parts.length ≠ 0 then ([], ckPlan l parts.length) else if firstBad (parts.map ckPart) ≠ 0 then ([], firstBad (parts.map ckPart)) else evalUp parts [] l
theorem evalRes_plan {l : List Nd} {parts : List Prt} (h : ckPlan l parts.length ≠ 0) : evalRes l parts = ([], ckPlan l parts.length) := if_pos h
theorem evalRes_part {l : List Nd} {parts : List Prt} (h : ckPlan l parts.length = 0) (h1 : firstBad (parts.map ckPart) ≠ 0) : evalRes l parts = ([], firstBad (parts.map ckPart)) := by
  unfold evalRes; rw [if_neg (by simp [h]), if_pos h1]
theorem evalRes_go {l : List Nd} {parts : List Prt} (h : ckPlan l parts.length = 0) (h1 : firstBad (parts.map ckPart) = 0) : evalRes l parts = evalUp parts [] l := by
  unfold evalRes; rw [if_neg (by simp [h]), if_neg (by simp [h1])]

/-- All joined, however great. -/
def joinL (l : List Prt) : Prt := l.foldl joinU .nil
theorem joinL_snoc (l : List Prt) (a : Prt) : joinL (l ++ [a]) = joinU (joinL l) a := by unfold joinL; rw [List.foldl_append]; rfl
theorem joinL_right {l : List Prt} (h : ∀ a ∈ l, a.Right) : (joinL l).Right := by
  have : ∀ (l : List Prt) (b : Prt), b.Right → (∀ a ∈ l, a.Right) → (l.foldl joinU b).Right := by
    intro l
    induction l with
    | nil => exact fun b hb _ => hb
    | cons a l ih => exact fun b hb hl => ih _ (right_join hb (hl a (by simp))) fun x hx => hl x (by simp [hx])
  exact this l .nil right_nil h
theorem foldl_join : ∀ (m : List Prt) (c : Prt), (∀ a ∈ m, a.Right) → m.foldl joinU c = joinU c (joinL m)
  | [], c, _ => (join_nil c).symm
  | a :: r, c, h => by
    have ha := h a (by simp)
    have hr : ∀ x ∈ r, x.Right := fun x hx => h x (by simp [hx])
    have e : joinL (a :: r) = joinU a (joinL r) := by
      show r.foldl joinU (joinU .nil a) = _
      rw [nil_join ha, foldl_join r a hr]
    rw [e, List.foldl_cons, foldl_join r _ hr, join_assoc ha (joinL_right hr)]
theorem joinL_append {l m : List Prt} (hm : ∀ a ∈ m, a.Right) : joinL (l ++ m) = joinU (joinL l) (joinL m) := by
  have : joinL (l ++ m) = m.foldl joinU (joinL l) := List.foldl_append ..
  rw [this, foldl_join m _ hm]
theorem joinL_one {a : Prt} (h : a.Right) : joinL [a] = a := nil_join h
theorem joinU_ge (a b : Prt) : a.frs.length ≤ (joinU a b).frs.length ∧ a.dfs.length ≤ (joinU a b).dfs.length := by
  unfold joinU; simp
theorem fits_left {a b : Prt} (h : (joinU a b).fits) : a.fits := by
  have := joinU_ge a b
  have h1 := h.1
  have h2 := h.2
  exact ⟨by omega, by omega⟩

/-- All of right parts: joined, or too many; too many only if all of them are. -/
theorem all_from {a : Prt} {l : List Prt} (ha : a.Ok) (hl : ∀ x ∈ l, x.Ok) : (allFrom a l = (l.foldl joinU a, 0) ∧ (l.foldl joinU a).Ok) ∨ (allFrom a l = (.nil, 10) ∧ ¬ (l.foldl joinU a).fits) := by
  induction l generalizing a with
  | nil => exact .inl ⟨rfl, ha⟩
  | cons b l ih =>
    have hb := hl b (by simp)
    by_cases hf : (joinU a b).fits
    · have hj := joinP_ok ha hb hf
      rcases ih (ok_join ha hb hf) (fun x hx => hl x (by simp [hx])) with ⟨h1, h2⟩ | ⟨h1, h2⟩
      · refine .inl ⟨?_, h2⟩
        rw [allFrom, hj, if_neg (by simp)]; exact h1
      · refine .inr ⟨?_, h2⟩
        rw [allFrom, hj, if_neg (by simp)]; exact h1
    · have hj := joinP_full ha hb hf
      refine .inr ⟨by rw [allFrom, hj, if_pos (by simp)], fun hn => hf ?_⟩
      have : ∀ (l : List Prt) (c : Prt), (l.foldl joinU c).fits → c.fits := by
        intro l
        induction l with
        | nil => exact fun c h => h
        | cons d l ih => exact fun c h => fits_left (ih _ h)
      exact this l _ hn
theorem all_right {l : List Prt} (h : ¬ 96 < l.length) (hl : ∀ x ∈ l, x.Ok) : (allP l = (joinL l, 0) ∧ (joinL l).fits) ∨ (allP l = (.nil, 10) ∧ ¬ (joinL l).fits) := by
  have e : allP l = allFrom .nil l := if_neg h
  rw [e]
  rcases all_from ok_nil hl with ⟨h1, h2⟩ | ⟨h1, h2⟩
  · exact .inl ⟨h1, h2.n1, h2.n2⟩
  · exact .inr ⟨h1, h2⟩
theorem allFrom_zero {a : Prt} {l : List Prt} (h : (allFrom a l).2 = 0) : ∀ x ∈ l, x.Ok := by
  induction l generalizing a with
  | nil => intro x hx; cases hx
  | cons b l ih =>
    rw [allFrom] at h
    split at h
    · rename_i h1; exact absurd h h1
    · rename_i h1
      intro x hx
      rcases List.mem_cons.1 hx with rfl | hx
      · exact (joinP_zero (Decidable.not_not.1 h1)).2.1
      · exact ih h x hx

/-- A tree's plan evaluated: so many more, the last of them the tree's parts joined; or too many. -/
theorem eval_tree {parts : List Prt} (hp : ∀ x ∈ parts, x.Ok) : ∀ (t : Tr) (b f : Nat) (out : List Prt) (r : List Nd), out.length = b → f + t.leaves ≤ parts.length →
    (∃ vs : List Prt, evalUp parts out (t.flat b f ++ r) = evalUp parts (out ++ vs) r ∧ vs.length = t.size ∧ vs[t.size - 1]? = some (joinL ((parts.drop f).take t.leaves)) ∧ (joinL ((parts.drop f).take t.leaves)).Ok) ∨
      evalUp parts out (t.flat b f ++ r) = ([], 10)
  | .one, b, f, out, r, hb, hf => by
    simp only [Tr.leaves] at hf
    have hlt : f < parts.length := by omega
    have hx : parts[f] ∈ parts := List.getElem_mem hlt
    have e1 : (parts.drop f).take 1 = [parts[f]] := by rw [List.drop_eq_getElem_cons hlt]; rfl
    refine .inl ⟨[parts[f]], ?_, rfl, ?_, ?_⟩
    · show evalUp parts out (⟨(f : Int), 0, 0⟩ :: r) = _
      rw [evalUp_leaf (by show (0 : Int) ≤ f; omega)]
      show evalUp parts (out ++ [parts.getD (f : Int).toNat .nil]) r = _
      rw [Int.toNat_natCast, List.getD_eq_getElem?_getD, List.getElem?_eq_getElem hlt]; rfl
    · show some parts[f] = some (joinL ((parts.drop f).take 1))
      rw [e1, joinL_one (hp _ hx).right]
    · show (joinL ((parts.drop f).take 1)).Ok
      rw [e1, joinL_one (hp _ hx).right]
      exact hp _ hx
  | .two u v, b, f, out, r, hb, hf => by
    simp only [Tr.leaves] at hf
    have pu := u.size_pos
    have pv := v.size_pos
    have hflat : (Tr.two u v).flat b f ++ r = u.flat b f ++ (v.flat (b + u.size) ((f + u.leaves : Nat) : Int) ++ (⟨-1, ((b + u.size : Nat) : Int) - 1, ((b + u.size + v.size : Nat) : Int) - 1⟩ :: r)) := by
      simp only [Tr.flat, List.append_assoc, List.singleton_append]
      congr 3
    rw [hflat]
    rcases eval_tree hp u b f out (v.flat (b + u.size) ((f + u.leaves : Nat) : Int) ++ (⟨-1, ((b + u.size : Nat) : Int) - 1, ((b + u.size + v.size : Nat) : Int) - 1⟩ :: r)) hb (by omega) with ⟨us, hu, lu, gu, ou⟩ | hu
    · rw [hu]
      rcases eval_tree hp v (b + u.size) (f + u.leaves) (out ++ us) (⟨-1, ((b + u.size : Nat) : Int) - 1, ((b + u.size + v.size : Nat) : Int) - 1⟩ :: r) (by rw [List.length_append, hb, lu]) (by omega) with ⟨vs, hv, lv, gv, ov⟩ | hv
      · rw [hv]
        have g1 : ((out ++ us) ++ vs).getD (((b + u.size : Nat) : Int) - 1).toNat .nil = joinL ((parts.drop f).take u.leaves) := by
          rw [show (((b + u.size : Nat) : Int) - 1).toNat = b + (u.size - 1) by omega, List.getD_eq_getElem?_getD, List.getElem?_append_left (by rw [List.length_append, hb, lu]; omega), List.getElem?_append_right (by omega),
            show b + (u.size - 1) - out.length = u.size - 1 by omega, gu]; rfl
        have g2 : ((out ++ us) ++ vs).getD (((b + u.size + v.size : Nat) : Int) - 1).toNat .nil = joinL ((parts.drop (f + u.leaves)).take v.leaves) := by
          rw [show (((b + u.size + v.size : Nat) : Int) - 1).toNat = (b + u.size) + (v.size - 1) by omega, List.getD_eq_getElem?_getD, List.getElem?_append_right (by rw [List.length_append, hb, lu]; omega), List.length_append, hb, lu,
            show b + u.size + (v.size - 1) - (b + u.size) = v.size - 1 by omega, gv]; rfl
        have hsum : joinL ((parts.drop f).take (Tr.two u v).leaves) = joinU (joinL ((parts.drop f).take u.leaves)) (joinL ((parts.drop (f + u.leaves)).take v.leaves)) := by
          show joinL ((parts.drop f).take (u.leaves + v.leaves)) = _
          rw [List.take_add, List.drop_drop, joinL_append fun x hx => (hp x (List.mem_of_mem_drop (List.mem_of_mem_take hx))).right]
        have hne : ¬ (0 : Int) ≤ (⟨-1, ((b + u.size : Nat) : Int) - 1, ((b + u.size + v.size : Nat) : Int) - 1⟩ : Nd).leaf := by show ¬ (0 : Int) ≤ -1; omega
        by_cases hfit : (joinU (joinL ((parts.drop f).take u.leaves)) (joinL ((parts.drop (f + u.leaves)).take v.leaves))).fits
        · have hj := joinP_ok ou ov hfit
          refine .inl ⟨us ++ vs ++ [joinL ((parts.drop f).take (Tr.two u v).leaves)], ?_, ?_, ?_, ?_⟩
          · rw [evalUp_ok hne (by show (joinP (((out ++ us) ++ vs).getD (((b + u.size : Nat) : Int) - 1).toNat .nil) (((out ++ us) ++ vs).getD (((b + u.size + v.size : Nat) : Int) - 1).toNat .nil)).2 = 0; rw [g1, g2, hj])]
            show evalUp parts (((out ++ us) ++ vs) ++ [(joinP (((out ++ us) ++ vs).getD (((b + u.size : Nat) : Int) - 1).toNat .nil) (((out ++ us) ++ vs).getD (((b + u.size + v.size : Nat) : Int) - 1).toNat .nil)).1]) r = _
            rw [g1, g2, hj, hsum]
            simp only [List.append_assoc]
          · simp only [List.length_append, lu, lv, List.length_singleton]; rfl
          · have : (Tr.two u v).size - 1 = (us ++ vs).length := by rw [List.length_append, lu, lv]; rfl
            rw [this, List.getElem?_append_right (Nat.le_refl _), Nat.sub_self]; rfl
          · rw [hsum]; exact ok_join ou ov hfit
        · have hj := joinP_full ou ov hfit
          refine .inr ?_
          rw [evalUp_bad hne (by show (joinP (((out ++ us) ++ vs).getD (((b + u.size : Nat) : Int) - 1).toNat .nil) (((out ++ us) ++ vs).getD (((b + u.size + v.size : Nat) : Int) - 1).toNat .nil)).2 ≠ 0; rw [g1, g2, hj]; simp)]
          show ([], (joinP (((out ++ us) ++ vs).getD (((b + u.size : Nat) : Int) - 1).toNat .nil) (((out ++ us) ++ vs).getD (((b + u.size + v.size : Nat) : Int) - 1).toNat .nil)).2) = _
          rw [g1, g2, hj]
      · exact .inr hv
    · exact .inr hu

theorem firstBad_parts {parts : List Prt} : firstBad (parts.map ckPart) = 0 ↔ ∀ x ∈ parts, x.Ok := by
  rw [firstBad_zero]
  constructor
  · intro h x hx
    exact (ok_iff x).1 (h _ (List.mem_map_of_mem hx))
  · intro h e he
    obtain ⟨x, hx, rfl⟩ := List.mem_map.1 he
    exact (ok_iff x).2 (h x hx)
/-- What a tree's plan comes to. -/
theorem eval_plan {parts : List Prt} {t : Tr} (hl : t.leaves = parts.length) (h12 : parts.length ≤ 12) :
    ((evalRes (t.flat 0 0) parts).2 ≠ 0 ∧ (allP parts).2 ≠ 0) ∨
      (∃ vs, evalRes (t.flat 0 0) parts = (vs, 0) ∧ vs.length = t.size ∧ vs[t.size - 1]? = some (joinL parts) ∧ allP parts = (joinL parts, 0)) ∨
      (evalRes (t.flat 0 0) parts = ([], 10)) := by
  have hc : ckPlan (t.flat 0 0) parts.length = 0 := by rw [← hl]; exact t.plan (by omega)
  by_cases hb : firstBad (parts.map ckPart) = 0
  · have hp := firstBad_parts.1 hb
    rw [evalRes_go hc hb]
    rcases eval_tree hp t 0 0 [] [] rfl (by omega) with ⟨vs, h1, h2, h3, h4⟩ | h1
    · have e : (parts.drop 0).take t.leaves = parts := by rw [hl]; simp
      rw [e] at h3 h4
      rw [List.append_nil] at h1
      refine .inr (.inl ⟨vs, ?_, h2, h3, ?_⟩)
      · exact h1.trans rfl
      · rcases all_right (by omega) hp with ⟨h5, _⟩ | ⟨_, h6⟩
        · exact h5
        · exact absurd ⟨h4.n1, h4.n2⟩ h6
    · rw [List.append_nil] at h1
      exact .inr (.inr h1)
  · refine .inl ⟨?_, fun h => hb ?_⟩
    · rw [evalRes_part hc hb]; exact hb
    · rw [firstBad_parts]
      have e : allP parts = allFrom .nil parts := if_neg (by omega)
      rw [e] at h
      exact allFrom_zero h
end Go.Proofs.YtmlomnhjbmocfaaDoor

/- Images as plain data, and what load.Check says of them. No program in sight. -/
namespace Go.Proofs.YtmlomnhjbmocfaaDoor
open Go.RowKit

/-- A segment; 'ba', 'bc': where its bytes lie, and how much room there is: no part of what it says. -/
structure Seg where
  At : Int
  Bytes : List UInt8
  Zeros : Int
  Writes : Bool
  Works : Bool
  ba : Option Addr
  bc : Nat

def Seg.cells (s : Seg) : List Value := [.int .i64 s.At, .slice s.ba s.Bytes.length s.bc, .int .i64 s.Zeros, .bool s.Writes, .bool s.Works]

structure SegsAt (w : World) (B : Nat) (A : Option Addr) (segs : List Seg) : Prop where
  row : Reads w B 5 A segs.length (segs.flatMap Seg.cells)
  each : ∀ s ∈ segs, Reads w B 1 s.ba s.Bytes.length (bytesV s.Bytes)
  small : segs.length ≤ 9223372036854775807
  smalls : ∀ s ∈ segs, s.Bytes.length ≤ 9223372036854775807

theorem SegsAt.below {w w' : World} {A : Option Addr} {segs : List Seg} (h : SegsAt w w.heap.size A segs) (hb : Below w.heap.size w w') : SegsAt w' w'.heap.size A segs :=
  ⟨(h.row.below hb).more hb.size, fun s hs => ((h.each s hs).below hb).more hb.size, h.small, h.smalls⟩

def Seg.bad (s : Seg) (e : Int) : Bool := decide (s.At < e) || decide (s.At > 65536) || decide (s.Zeros < 0) || decide (s.Zeros > 65536) || decide ((s.Bytes.length : Int) > 65536)

def ckSegs : List Seg → Int → Int
  | [], _ => 0
  | s :: r, e => if s.bad e then 3 else if s.At + s.Bytes.length + s.Zeros > 65536 then 10 else ckSegs r (s.At + s.Bytes.length + s.Zeros)

def ckImg (entry : Int) (segs : List Seg) : Int :=
  if segs.length > 12 then 2 else if ckSegs segs 0 ≠ 0 then ckSegs segs 0 else if entry < 0 ∨ entry > 65536 then 3 else 0

theorem ckImg_many {entry : Int} {segs : List Seg} (h : 12 < (segs.length : Int)) : ckImg entry segs = 2 := by
  unfold ckImg; rw [if_pos (by omega)]
theorem ckImg_stop {entry : Int} {segs r : List Seg} {k : Nat} {en v : Int} {s : Seg} (h12 : (segs.length : Int) ≤ 12) (hck : ckSegs segs 0 = ckSegs (segs.drop k) en)
    (hd : segs.drop k = s :: r) (hv : ckSegs (s :: r) en = v) (h0 : v ≠ 0) : ckImg entry segs = v := by
  unfold ckImg; rw [if_neg (by omega), hck, hd, hv, if_pos h0]
theorem ckImg_end {entry : Int} {segs : List Seg} {k : Nat} {en : Int} (h12 : (segs.length : Int) ≤ 12) (hck : ckSegs segs 0 = ckSegs (segs.drop k) en)
    (hk : segs.length ≤ k) : ckImg entry segs = if entry < 0 ∨ entry > 65536 then 3 else 0 := by
  unfold ckImg; rw [if_neg (by omega), hck, List.drop_eq_nil_of_le hk]; simp [ckSegs]
theorem ckSegs_bad {s : Seg} {r : List Seg} {en : Int} (h : s.At < en ∨ 65536 < s.At ∨ s.Zeros < 0 ∨ 65536 < s.Zeros ∨ 65536 < (s.Bytes.length : Int)) : ckSegs (s :: r) en = 3 := by
  rw [ckSegs, if_pos]; simp only [Seg.bad, Bool.or_eq_true, decide_eq_true_eq]; omega
theorem ckSegs_over {s : Seg} {r : List Seg} {en : Int} (h0 : en ≤ s.At) (h1 : s.At ≤ 65536) (h2 : 0 ≤ s.Zeros) (h3 : s.Zeros ≤ 65536) (h4 : (s.Bytes.length : Int) ≤ 65536) (h5 : 65536 < s.At + s.Bytes.length + s.Zeros) : ckSegs (s :: r) en = 10 := by
  rw [ckSegs, if_neg, if_pos h5]; simp only [Seg.bad, Bool.or_eq_true, decide_eq_true_eq]; omega
theorem ckSegs_next {s : Seg} {r : List Seg} {en : Int} (h0 : en ≤ s.At) (h1 : s.At ≤ 65536) (h2 : 0 ≤ s.Zeros) (h3 : s.Zeros ≤ 65536) (h4 : (s.Bytes.length : Int) ≤ 65536) (h5 : s.At + s.Bytes.length + s.Zeros ≤ 65536) : ckSegs (s :: r) en = ckSegs r (s.At + s.Bytes.length + s.Zeros) := by
  rw [ckSegs, if_neg, if_neg (by omega)]; simp only [Seg.bad, Bool.or_eq_true, decide_eq_true_eq]; omega

theorem flatMap5_get (segs : List Seg) (k j : Nat) (hj : j < 5) (hk : k < segs.length) :
    (segs.flatMap Seg.cells)[k * 5 + j]? = (segs[k].cells)[j]? := by
  induction segs generalizing k with
  | nil => simp at hk
  | cons s r ih =>
    rw [List.flatMap_cons]
    rcases k with _ | k
    · rw [List.getElem?_append_left (by simp [Seg.cells]; omega)]
      simp
    · rw [List.getElem?_append_right (by simp [Seg.cells]; omega)]
      have : (k + 1) * 5 + j - s.cells.length = k * 5 + j := by simp [Seg.cells]; omega
      rw [this, ih k (by simpa using hk)]
      simp
/-! ### a byte at an address -/
def Seg.has (s : Seg) (at_ : Int) : Bool := decide (s.At ≤ at_) && decide (at_ - s.At < s.Bytes.length + s.Zeros)
def Seg.byte (s : Seg) (at_ : Int) : UInt8 := s.Bytes.getD (at_ - s.At).toNat 0
def lookAt : List Seg → Int → Nat → Option (Nat × Seg)
  | [], _, _ => none
  | s :: r, a, k => if s.has a then some (k, s) else lookAt r a (k + 1)
structure ByteRes where
  b : UInt8
  there : Bool
  writes : Bool
  works : Bool
  e : Int
def byteRes (entry : Int) (segs : List Seg) (a : Int) : ByteRes :=
  if ckImg entry segs ≠ 0 then ⟨0, false, false, false, ckImg entry segs⟩
  else match lookAt segs a 0 with
    | none => ⟨0, false, false, false, 0⟩
    | some (_, s) => ⟨s.byte a, true, s.Writes, s.Works, 0⟩
def ByteRes.val (r : ByteRes) : Value := .tuple #[.int .u8 (r.b.toNat : Int), .bool r.there, .bool r.writes, .bool r.works, .int .i64 r.e]
def idxOf : Option (Nat × Seg) → Int
  | none => -1
  | some (k, _) => k
def byteOf (a : Int) : Option (Nat × Seg) → UInt8
  | none => 0
  | some (_, s) => s.byte a

def wrOf : Option (Nat × Seg) → Bool
  | none => false
  | some (_, s) => s.Writes
def wkOf : Option (Nat × Seg) → Bool
  | none => false
  | some (_, s) => s.Works
theorem byteRes_good {entry : Int} {segs : List Seg} {a : Int} (h : ckImg entry segs = 0) :
    byteRes entry segs a = ⟨byteOf a (lookAt segs a 0), (lookAt segs a 0).isSome, wrOf (lookAt segs a 0), wkOf (lookAt segs a 0), 0⟩ := by
  unfold byteRes; rw [if_neg (by omega)]; cases lookAt segs a 0 <;> rfl

theorem lookAt_hit {s : Seg} {r : List Seg} {a : Int} {k : Nat} (h : s.At ≤ a) (h1 : a - s.At < s.Bytes.length + s.Zeros) : lookAt (s :: r) a k = some (k, s) := by
  rw [lookAt, if_pos]; simp [Seg.has, h, h1]
theorem lookAt_miss {s : Seg} {r : List Seg} {a : Int} {k : Nat} (h : a < s.At ∨ s.Bytes.length + s.Zeros ≤ a - s.At) : lookAt (s :: r) a k = lookAt r a (k + 1) := by
  rw [lookAt, if_neg]; simp only [Seg.has, Bool.and_eq_true, decide_eq_true_eq]; omega

theorem lookAt_idx : ∀ (segs : List Seg) (a : Int) (k j : Nat) (s : Seg), lookAt segs a k = some (j, s) → k ≤ j ∧ segs[j - k]? = some s
  | [], _, _, _, _, h => by cases h
  | x :: r, a, k, j, s, h => by
    rw [lookAt] at h
    split at h
    · cases h
      simp
    · obtain ⟨h1, h2⟩ := lookAt_idx r a (k + 1) j s h
      refine ⟨by omega, ?_⟩
      rw [show j - k = (j - (k + 1)) + 1 from by omega, List.getElem?_cons_succ]
      exact h2

structure Seg.Fine (s : Seg) : Prop where
  at0 : 0 ≤ s.At
  at1 : s.At ≤ 65536
  z0 : 0 ≤ s.Zeros
  z1 : s.Zeros ≤ 65536
  len : (s.Bytes.length : Int) ≤ 65536
theorem ckSegs_fine : ∀ (segs : List Seg) (e : Int), 0 ≤ e → ckSegs segs e = 0 → ∀ s ∈ segs, s.Fine
  | [], _, _, _ => fun s hs => by cases hs
  | s :: r, e, he, h => by
    rw [ckSegs] at h
    split at h
    · cases h
    · rename_i hb
      simp only [Seg.bad, Bool.or_eq_true, decide_eq_true_eq] at hb
      split at h
      · cases h
      · intro x hx
        rcases List.mem_cons.1 hx with rfl | hx
        · exact ⟨by omega, by omega, by omega, by omega, by omega⟩
        · exact ckSegs_fine r _ (by omega) h x hx
theorem ckImg_fine {entry : Int} {segs : List Seg} (h : ckImg entry segs = 0) : (∀ s ∈ segs, s.Fine) ∧ segs.length ≤ 12 := by
  unfold ckImg at h
  split at h
  · cases h
  · split at h
    · exact absurd h (by assumption)
    · rename_i h1 h2
      exact ⟨ckSegs_fine segs 0 (by omega) (by omega), by omega⟩
theorem byteRes_bad {entry : Int} {segs : List Seg} {a : Int} (h : ckImg entry segs ≠ 0) : byteRes entry segs a = ⟨0, false, false, false, ckImg entry segs⟩ := by
  unfold byteRes; rw [if_pos h]
theorem byteRes_hit {entry : Int} {segs : List Seg} {a : Int} {k : Nat} {s : Seg} (h : ckImg entry segs = 0) (hl : lookAt segs a 0 = some (k, s)) : byteRes entry segs a = ⟨s.byte a, true, s.Writes, s.Works, 0⟩ := by
  unfold byteRes; rw [if_neg (by omega), hl]
theorem byteRes_none {entry : Int} {segs : List Seg} {a : Int} (h : ckImg entry segs = 0) (hl : lookAt segs a 0 = none) : byteRes entry segs a = ⟨0, false, false, false, 0⟩ := by
  unfold byteRes; rw [if_neg (by omega), hl]
theorem byte_in {s : Seg} {a : Int} (h1 : (a - s.At).toNat < s.Bytes.length) : s.byte a = s.Bytes[(a - s.At).toNat] := by
  simp [Seg.byte, h1]
theorem byte_out {s : Seg} {a : Int} (h1 : s.Bytes.length ≤ (a - s.At).toNat) : s.byte a = 0 := by
  simp [Seg.byte, h1]
theorem bytesV_get {l : List UInt8} {k : Nat} (h : k < l.length) : (bytesV l)[k]? = some (.int .u8 (l[k].toNat : Int)) := by
  simp [bytesV, byteV, h]

/-! ### a row of bytes -/
def rangeB (segs : List Seg) (a : Int) : Nat → Option (List UInt8)
  | 0 => some []
  | n + 1 => match rangeB segs a n, lookAt segs (a + n) 0 with
    | some l, some (_, s) => some (l ++ [s.byte (a + n)])
    | _, _ => none
theorem rangeB_len {segs : List Seg} {a : Int} : ∀ {n : Nat} {l : List UInt8}, rangeB segs a n = some l → l.length = n
  | 0, l, h => by simp [rangeB] at h; subst h; rfl
  | n + 1, l, h => by
    rw [rangeB] at h
    split at h
    · rename_i l' s' hl hs
      cases h
      simp [rangeB_len hl]
    · cases h
theorem rangeB_step {segs : List Seg} {a : Int} {n k : Nat} {l : List UInt8} {s : Seg} (h : rangeB segs a n = some l) (hl : lookAt segs (a + n) 0 = some (k, s)) : rangeB segs a (n + 1) = some (l ++ [s.byte (a + n)]) := by
  rw [rangeB, h, hl]
theorem rangeB_none {segs : List Seg} {a : Int} {n : Nat} (hl : lookAt segs (a + n) 0 = none) : rangeB segs a (n + 1) = none := by
  rw [rangeB, hl]; cases rangeB segs a n <;> rfl
theorem rangeB_more {segs : List Seg} {a : Int} {n m : Nat} (h : rangeB segs a n = none) (hm : n ≤ m) : rangeB segs a m = none := by
  induction m with
  | zero => obtain rfl : n = 0 := by omega
            exact h
  | succ m ih =>
    rcases Nat.lt_or_ge n (m + 1) with h1 | h1
    · rw [rangeB, ih (by omega)]
    · obtain rfl : n = m + 1 := by omega
      exact h
def rangeRes (entry : Int) (segs : List Seg) (a n : Int) : List UInt8 × Int :=
  if ckImg entry segs ≠ 0 then ([], ckImg entry segs)
  else if a < 0 ∨ n < 0 ∨ a > 65536 ∨ n > 64 then ([], 3)
  else match rangeB segs a n.toNat with
    | none => ([], 5)
    | some l => (l, 0)

theorem rangeRes_bad {entry : Int} {segs : List Seg} {a n : Int} (h : ckImg entry segs ≠ 0) : rangeRes entry segs a n = ([], ckImg entry segs) := by
  unfold rangeRes; rw [if_pos h]
theorem rangeRes_off {entry : Int} {segs : List Seg} {a n : Int} (h : ckImg entry segs = 0) (h1 : a < 0 ∨ n < 0 ∨ a > 65536 ∨ n > 64) : rangeRes entry segs a n = ([], 3) := by
  unfold rangeRes; rw [if_neg (by omega), if_pos h1]
theorem rangeRes_none {entry : Int} {segs : List Seg} {a n : Int} (h : ckImg entry segs = 0) (h1 : ¬ (a < 0 ∨ n < 0 ∨ a > 65536 ∨ n > 64)) (h2 : rangeB segs a n.toNat = none) : rangeRes entry segs a n = ([], 5) := by
  unfold rangeRes; rw [if_neg (by omega), if_neg h1, h2]
theorem rangeRes_some {entry : Int} {segs : List Seg} {a n : Int} {l : List UInt8} (h : ckImg entry segs = 0) (h1 : ¬ (a < 0 ∨ n < 0 ∨ a > 65536 ∨ n > 64)) (h2 : rangeB segs a n.toNat = some l) : rangeRes entry segs a n = (l, 0) := by
  unfold rangeRes; rw [if_neg (by omega), if_neg h1, h2]

/-- The slice value v reads as the bytes l. -/
def BytesAt (w : World) (v : Value) (l : List UInt8) : Prop := ∃ A c, v = .slice A l.length c ∧ Reads w w.heap.size 1 A l.length (bytesV l)
theorem BytesAt.nil (w : World) : BytesAt w (.slice none 0 0) [] := ⟨none, 0, rfl, Reads.none_⟩
theorem BytesAt.of_own {w : World} {base : Nat} {e : TypeId} {v : Value} {l : List UInt8} (h : w.ownsRow base e 1 v l.length (bytesV l)) : BytesAt w v l := by
  rcases h.2 with ⟨hv, hx⟩ | ⟨g, cap, cur, hv, _⟩
  · have : l = [] := by simpa [bytesV] using hx
    subst this; subst hv
    exact BytesAt.nil _
  · subst hv
    exact ⟨_, _, rfl, Reads.of_own h⟩
end Go.Proofs.YtmlomnhjbmocfaaDoor
