/- bytes.Equal over slices that read as lists. -/
import Derived.Test.YtokiekachlmigaaDoorWalk
import Derived.Laws.BytesArg
set_option linter.all false
namespace Go.Proofs.YtokiekachlmigaaDoor
open Go.RowKit

theorem bytesV_ints (l : List UInt8) : bytesV l = (l.map fun b => ((b.toNat : Nat) : Int)).map (Value.int .u8) := by
  simp [bytesV, byteV]
theorem strOf_bytes (l : List UInt8) : (l.map fun b => ((b.toNat : Nat) : Int)).foldl (fun r n => r.push (UInt8.ofNat n.toNat)) ByteArray.empty = ⟨l.toArray⟩ := by
  rw [foldl_push_bytes]
  have hid : ∀ l : List UInt8, l.map (fun b : UInt8 => UInt8.ofNat ((b.toNat : Nat) : Int).toNat) = l := fun l => by
    induction l with
    | nil => rfl
    | cons b l ih => rw [List.map_cons, ih]; simp
  rw [List.map_map]
  show (⟨ByteArray.empty.data ++ (l.map (fun b : UInt8 => UInt8.ofNat ((b.toNat : Nat) : Int).toNat)).toArray⟩ : ByteArray) = _
  rw [hid]
  simp [ByteArray.empty, ByteArray.emptyWithCapacity]
  rfl
/-- A conversion of bytes to a string, of whatever slice reads as a list. -/
theorem conv_reads {P : Program} {w : World} {B : Nat} {A : Option Addr} {l : List UInt8} (h : Reads w B 1 A l.length (bytesV l)) (c : Nat) {src dst e : TypeId}
    (hs : P.underlying src = some (.slice e)) (he : P.underlying e = some (.int .u8)) (hd : P.underlying dst = some .string) :
    (convert src dst (.slice A l.length c)).run P w = .ok (.string ⟨l.toArray⟩) w := by
  rw [run_convert_bytes_string w src dst e A l.length c hs he hd]
  rcases A with _ | ad
  · have : l.length = 0 := by
      rcases Nat.eq_zero_or_pos l.length with h0 | h0
      · exact h0
      · obtain ⟨b, off, e, _⟩ := h.2 h0
        cases e
    have hl : l = [] := List.eq_nil_of_length_eq_zero this
    subst hl
    simp [Conv.bytesToString]
    rfl
  · have hl : (loadCells ad l.length).run P w = .ok ((l.map fun b => ((b.toNat : Nat) : Int)).map (Value.int .u8)).toArray w := by
      rw [← bytesV_ints]
      have := run_loadCells_list (P := P) w ad (bytesV l) (fun j v hj => by
        have hlt : j < (bytesV l).length := (List.getElem?_eq_some_iff.1 hj).1
        obtain ⟨b, off, e, _, hc⟩ := h.2 (by have := h.1; omega)
        injection e with e
        subst e
        rw [add_none]
        exact hc j v hj)
      have hlen : (bytesV l).length = l.length := by simp [bytesV]
      rw [hlen] at this
      exact this
    rw [run_bytesToString w ad _ c _ hl, strOf_bytes]

set_option maxHeartbeats 1000000 in
theorem bytesEqual_any (A A' : Option Addr) (c c' : Nat) (l l' : List UInt8) (w : World) (h : Reads w w.heap.size 1 A l.length (bytesV l)) (h' : Reads w w.heap.size 1 A' l'.length (bytesV l')) :
    Calls Tryd.prog 70 #[.slice A l.length c, .slice A' l'.length c'] w fun e w' => e = .returned (.bool (l == l')) ∧ w' = w := by
  have e1 := conv_reads h c Tryd.underlying89 Tryd.underlying5 Tryd.underlying9
  have e2 := conv_reads h' c' Tryd.underlying89 Tryd.underlying5 Tryd.underlying9
  go_enter Tryd.func70, Tryd.ntmps70
  go_wp2
  go_ret
  exact ⟨rfl, rfl⟩
end Go.Proofs.YtokiekachlmigaaDoor
