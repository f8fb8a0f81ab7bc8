/- What a row's arguments are opened to: a type 'opens' to plain data. No program in sight. -/
import Derived.Test.YtbonpilpmjghbaaMem
import Derived.Deep.Slices
import Derived.Deep.Fields
import Derived.ChangeSame
import Derived.OpenShut
set_option linter.all false
namespace Go.Proofs.Ytbonpilpmjghbaa
open Go.RowKit Go.ChangeShapes Go.WideShapes Go.Deep

/-- A value of type t that reads as data is 'cells a' for some a that is 'ok'. -/
def Opens {H : Type} (enc : TypeId × Value → H) (P : Program) (w : World) (t : TypeId) {α : Type} (cells : α → List Value) (ok : α → Prop) : Prop :=
  ∀ fuel cs x, DataW.trod enc P w 0 (fun _ => true) true fuel t cs = some x → ∃ a, cs = cells a ∧ ok a

theorem lt_of_cell {w : World} {a : Addr} {v : Value} (h : w.cell? a = some v) : a.block < w.heap.size := by
  rcases Nat.lt_or_ge a.block w.heap.size with hlt | hge
  · exact hlt
  · unfold World.cell? at h; rw [Array.getElem?_eq_none hge] at h; cases h

theorem list_of {α : Type} {p : Nat → α → Prop} : ∀ n, (∀ i, i < n → ∃ a, p i a) → ∃ l : List α, l.length = n ∧ ∀ i a, l[i]? = some a → p i a
  | 0, _ => ⟨[], rfl, fun i a h => by simp at h⟩
  | n + 1, h => by
    obtain ⟨l, hl, hp⟩ := list_of n fun i hi => h i (by omega)
    obtain ⟨a, ha⟩ := h n (by omega)
    refine ⟨l ++ [a], by simp [hl], fun i b hb => ?_⟩
    rcases Nat.lt_or_ge i n with hi | hi
    · rw [List.getElem?_append_left (by omega)] at hb
      exact hp i b hb
    · rw [List.getElem?_append_right (by omega)] at hb
      have : i = n := by
        have : i - l.length < 1 := by
          rcases Nat.lt_or_ge (i - l.length) 1 with h1 | h1
          · exact h1
          · rw [List.getElem?_eq_none (by simpa using h1)] at hb; cases hb
        omega
      subst this
      rw [hl, Nat.sub_self] at hb
      simp at hb
      subst hb
      exact ha

theorem flatMap_get {α : Type} {cells : α → List Value} {k : Nat} (hlen : ∀ a, (cells a).length = k) : ∀ (l : List α) (i j : Nat) (a : α), j < k → l[i]? = some a → (l.flatMap cells)[i * k + j]? = (cells a)[j]?
  | [], i, j, a, _, h => by simp at h
  | x :: r, i, j, a, hj, h => by
    rw [List.flatMap_cons]
    rcases i with _ | i
    · simp at h; subst h
      rw [List.getElem?_append_left (by rw [hlen]; omega)]
      simp
    · rw [List.getElem?_append_right (by rw [hlen, Nat.succ_mul]; omega)]
      have : (i + 1) * k + j - (cells x).length = i * k + j := by rw [hlen, Nat.succ_mul]; omega
      rw [this]
      exact flatMap_get hlen r i j a hj (by simpa using h)
theorem flatMap_len {α : Type} {cells : α → List Value} {k : Nat} (hlen : ∀ a, (cells a).length = k) (l : List α) : (l.flatMap cells).length = l.length * k := by
  induction l with
  | nil => simp
  | cons x r ih => rw [List.flatMap_cons, List.length_append, hlen, ih, List.length_cons, Nat.succ_mul]; omega
theorem flatMap_at {α : Type} {cells : α → List Value} {k : Nat} (hlen : ∀ a, (cells a).length = k) (hk : 0 < k) (l : List α) (j : Nat) (u : Value) (h : (l.flatMap cells)[j]? = some u) :
    ∃ a, l[j / k]? = some a ∧ (cells a)[j % k]? = some u := by
  have hj : j < l.length * k := by
    rw [← flatMap_len hlen l]
    exact (List.getElem?_eq_some_iff.1 h).1
  have hd : j / k < l.length := Nat.div_lt_of_lt_mul (by rwa [Nat.mul_comm])
  refine ⟨l[j / k], List.getElem?_eq_getElem hd, ?_⟩
  rw [← flatMap_get hlen l (j / k) (j % k) _ (Nat.mod_lt _ hk) (List.getElem?_eq_getElem hd), Nat.mul_comm, Nat.div_add_mod]
  exact h

section
variable {H : Type} {enc : TypeId × Value → H} {P : Program} {w : World} {t e : TypeId}

theorem opens_int {k : IntKind} (ht : P.underlying t = some (.int k)) : Opens enc P w t (fun n : Int => [.int k n]) (fun n => (Lit.int k n).wf = true) := fun _ _ _ h => by
  obtain ⟨n, hc, _, hw⟩ := DataW.trod_int ht h
  exact ⟨n, hc, hw⟩
theorem opens_bool (ht : P.underlying t = some .bool) : Opens enc P w t (fun b : Bool => [.bool b]) (fun _ => True) := fun _ _ _ h => by
  obtain ⟨b, hc, _⟩ := DataW.trod_bool ht h
  exact ⟨b, hc, trivial⟩
theorem opens_string (ht : P.underlying t = some .string) : Opens enc P w t (fun s : ByteArray => [.string s]) (fun s => s.size ≤ maxLen) := fun _ _ _ h => by
  obtain ⟨s, hc, _, hs⟩ := DataW.trod_string ht h
  exact ⟨s, hc, hs⟩
/-- A byte, as a byte. -/
theorem opens_byte (ht : P.underlying t = some (.int .u8)) : Opens enc P w t (fun b : UInt8 => [.int .u8 ((b.toNat : Nat) : Int)]) (fun _ => True) := fun _ _ _ h => by
  obtain ⟨n, hc, _, hw⟩ := DataW.trod_int ht h
  obtain ⟨h0, h1⟩ := bounds_u8 hw
  refine ⟨UInt8.ofNat n.toNat, ?_, trivial⟩
  have : ((UInt8.ofNat n.toNat).toNat : Int) = n := by
    rw [UInt8.toNat_ofNat']; omega
  show _ = [Value.int .u8 ((UInt8.ofNat n.toNat).toNat : Int)]
  rw [this, hc]

/-- What is known of a slice that came in: its address, its elements, its capacity. -/
structure SliceIn (α : Type) where
  A : Option Addr
  l : List α
  c : Nat

def SliceIn.cells {α : Type} (s : SliceIn α) : List Value := [.slice s.A s.l.length s.c]
structure SliceIn.Ok {α : Type} (w : World) (cells : α → List Value) (ok : α → Prop) (k : Nat) (s : SliceIn α) : Prop where
  reads : Reads w w.heap.size k s.A s.l.length (s.l.flatMap cells)
  each : ∀ a ∈ s.l, ok a
  cap : s.l.length ≤ s.c
  max : s.c ≤ 9223372036854775807

theorem opens_slice {α : Type} {cells : α → List Value} {ok : α → Prop} {k : Nat} (ht : P.underlying t = some (.slice e)) (hk : P.cellsOf e = k) (hk0 : 0 < k) (hlen : ∀ a, (cells a).length = k)
    (he : Opens enc P w e cells ok) : Opens enc P w t (SliceIn.cells (α := α)) (SliceIn.Ok w cells ok k) := fun fuel cs x h => by
  rcases open_slice ht h with ⟨rfl, _⟩ | ⟨a, len, cap, m, n, D, Pl, rfl, hb, hl, hm, hmm, _, hi⟩
  · exact ⟨⟨none, [], 0⟩, rfl, Reads.none_, fun a h => by simp at h, Nat.le_refl _, Nat.zero_le _⟩
  · rw [if_pos rfl] at hmm
    subst hmm
    rw [hk] at hi
    obtain ⟨l, hll, hp⟩ := list_of (p := fun i a' => (∀ j, j < k → w.cell? ((a.add (i * k)).add j) = (cells a')[j]?) ∧ ok a') len fun i hi' => by
      obtain ⟨cs', hc, ht'⟩ := hi i (by omega)
      obtain ⟨a', rfl, hok⟩ := he _ _ _ ht'
      obtain ⟨_, _, hat⟩ := World.cells?_some hc
      exact ⟨a', hat, hok⟩
    refine ⟨⟨some a, l, m⟩, by simp [SliceIn.cells, hll], ?_, fun a' ha' => ?_, by simp [hll, hl], by unfold maxLen at hm; exact hm⟩
    · have hcell : ∀ j u, (l.flatMap cells)[j]? = some u → w.cell? (a.add j) = some u := fun j u hj => by
        obtain ⟨a', h1, h2⟩ := flatMap_at hlen hk0 l j u hj
        have := (hp _ _ h1).1 (j % k) (Nat.mod_lt _ hk0)
        rw [Go.Proofs.Ytbonpilpmjghbaa.add_of_add, Nat.mul_comm, Nat.div_add_mod, h2] at this
        exact this
      rcases Nat.eq_zero_or_pos l.length with h0 | h0
      · exact ⟨flatMap_len hlen l, fun hn => absurd hn (by show ¬ 0 < l.length; omega)⟩
      · refine Reads.of_add (flatMap_len hlen l) hk0 ?_ hcell
        have hlf : 0 < (l.flatMap cells).length := by rw [flatMap_len hlen]; exact Nat.mul_pos h0 hk0
        have := lt_of_cell (hcell 0 _ (List.getElem?_eq_getElem hlf))
        rwa [block_of_add] at this
    · obtain ⟨i, hi', rfl⟩ := List.getElem_of_mem ha'
      exact (hp i _ (List.getElem?_eq_getElem hi')).2
end
end Go.Proofs.Ytbonpilpmjghbaa
