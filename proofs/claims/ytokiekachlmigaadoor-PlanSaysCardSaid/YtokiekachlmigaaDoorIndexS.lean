/- slices.Equal, Index, Contains over texts. -/
import Derived.Test.YtokiekachlmigaaDoorEqP
set_option linter.all false
namespace Go.Proofs.YtokiekachlmigaaDoor
open Go.RowKit

def strV (s : ByteArray) : Value := .string s
def strsV (l : List ByteArray) : List Value := l.map strV
theorem strsV_flat (l : List ByteArray) : strsV l = l.flatMap (fun s : ByteArray => [.string s]) := by
  induction l with
  | nil => rfl
  | cons b l ih => rw [List.flatMap_cons, ← ih]; rfl
theorem strsV_append (l m : List ByteArray) : strsV (l ++ m) = strsV l ++ strsV m := List.map_append ..

/-- The first place of a text in a list, or -1. -/
def indexS (s : ByteArray) (l : List ByteArray) : Int := match l.findIdx? (fun t => t == s) with
  | some k => k
  | none => -1
theorem indexS_in {s : ByteArray} {l : List ByteArray} : decide (0 ≤ indexS s l) = decide (s ∈ l) := by
  unfold indexS
  rcases h : l.findIdx? (fun t => t == s) with _ | k
  · have : s ∉ l := fun hm => by
      have := List.findIdx?_eq_none_iff.1 h s hm
      simp at this
    simp [this]
  · have : s ∈ l := by
      rw [List.findIdx?_eq_some_iff_getElem] at h
      obtain ⟨hk, he, _⟩ := h
      have : l[k] = s := by simpa using he
      rw [← this]; exact List.getElem_mem hk
    simp [this]
theorem indexS_at {s : ByteArray} {l : List ByteArray} {k : Nat} (hn : ∀ x ∈ l.take k, x ≠ s) (hk : l[k]? = some s) : indexS s l = k := by
  obtain ⟨hlt, hv⟩ := List.getElem?_eq_some_iff.1 hk
  have : l.findIdx? (fun t => t == s) = some k := by
    rw [List.findIdx?_eq_some_iff_getElem]
    refine ⟨hlt, by simp [hv], fun j hj => ?_⟩
    have := hn l[j] (by rw [List.mem_take_iff_getElem]; exact ⟨j, by omega, rfl⟩)
    simpa using this
  unfold indexS
  rw [this]
theorem indexS_no {s : ByteArray} {l : List ByteArray} (hn : ∀ x ∈ l, x ≠ s) : indexS s l = -1 := by
  have : l.findIdx? (fun t => t == s) = none := List.findIdx?_eq_none_iff.2 fun x hx => by simpa using hn x hx
  unfold indexS
  rw [this]

set_option maxHeartbeats 1000000 in
theorem indexStr_any (A : Option Addr) (c : Nat) (l : List ByteArray) (s : ByteArray) (w : World) (h : Reads w w.heap.size 1 A l.length (strsV l)) (hm : l.length ≤ 9223372036854775807) :
    Calls Tryd.prog 65 #[.slice A l.length c, .string s] w fun e w' => e = .returned (.int .i64 (indexS s l)) ∧ w = w' := by
  go_enter Tryd.func65, Tryd.ntmps65
  go_wp2
  go_loop [8] (fun i => ∃ k : Nat, k ≤ l.length ∧ i = .int .i64 k ∧ Hid (∀ x ∈ l.take k, x ≠ s)) (fun i => l.length - (intOf i).toNat)
  case atStart => exact ⟨0, Nat.zero_le _, rfl, Lib.hid (by simp)⟩
  case round =>
    obtain ⟨k, hk, rfl, hn⟩ := hrel
    by_cases hlt : k < l.length
    · obtain ⟨b, off, u, rfl, _, hu, hc⟩ := h.at_ hlt
      obtain ⟨x, hx⟩ : ∃ x, l[k]? = some x := ⟨_, List.getElem?_eq_getElem hlt⟩
      rw [show (strsV l)[k]? = some (strV x) by simp [strsV, hx]] at hu
      cases hu
      unfold strV at hc
      have HX := Lib.hid hx
      clear hx
      by_cases hxs : s = x
      · have ht : (s.toList == x.toList) = true := by rw [hxs]; simp
        subst hxs
        have HI := Lib.hid (indexS_at hn.out HX.out)
        go_wp2
        go_ret
        exact ⟨ret_val (by rw [HI.out]; rfl), rfl⟩
      · have ht : (s.toList == x.toList) = false := by rw [toList_beq]; exact beq_eq_false_iff_ne.2 hxs
        have HXS := Lib.hid hxs
        clear hxs
        go_wp2
        go_round
        case rel =>
          refine ⟨k + 1, by omega, by go_num, Lib.hid ?_⟩
          rw [List.take_add_one, HX.out]
          intro y hy
          rcases List.mem_append.1 hy with hy | hy
          · exact hn.out y hy
          · obtain rfl : y = x := by simpa using hy
            exact fun e => HXS.out e.symm
        case measure => simp [intOf]; omega
    · obtain rfl : k = l.length := by omega
      have HI := Lib.hid (indexS_no (s := s) (l := l) (by have := hn.out; rwa [List.take_length] at this))
      go_wp2
      go_ret
      exact ⟨ret_val (by rw [HI.out]; rfl), rfl⟩

set_option maxHeartbeats 1000000 in
theorem containsStr_any (A : Option Addr) (c : Nat) (l : List ByteArray) (s : ByteArray) (w : World) (h : Reads w w.heap.size 1 A l.length (strsV l)) (hm : l.length ≤ 9223372036854775807) :
    Calls Tryd.prog 18 #[.slice A l.length c, .string s] w fun e w' => e = .returned (.bool (decide (s ∈ l))) ∧ w = w' := by
  obtain ⟨n, hn⟩ : ∃ n, indexS s l = n := ⟨_, rfl⟩
  have HN := Lib.hid (indexS_in (s := s) (l := l))
  have HI := indexStr_any A c l s w h hm
  rw [hn] at HN HI
  clear hn
  go_enter Tryd.func18, Tryd.ntmps18
  go_wp2_with fail
  refine HI.mono ?_
  rintro e w' ⟨rfl, rfl⟩
  go_wp2
  go_ret
  exact ⟨ret_val (by rw [← HN.out]; rfl), rfl⟩

set_option maxHeartbeats 1000000 in
theorem equalStrs_any (A A' : Option Addr) (c c' : Nat) (l l' : List ByteArray) (w : World) (h : Reads w w.heap.size 1 A l.length (strsV l)) (h' : Reads w w.heap.size 1 A' l'.length (strsV l')) (hm : l.length ≤ 9223372036854775807) :
    Calls Tryd.prog 20 #[.slice A l.length c, .slice A' l'.length c'] w fun e w' => e = .returned (.bool (l == l')) ∧ Below w.heap.size w w' := by
  by_cases hlen : l.length = l'.length
  · have hne : ((l.length : Int) != (l'.length : Int)) = false := by rw [hlen]; simp
    have HL := Lib.hid hlen
    have l0 : l.length ≤ l'.length := by omega
    clear hlen
    go_enter Tryd.func20, Tryd.ntmps20
    go_wp2
    go_loopw [13] (fun i wr => ∃ k : Nat, k ≤ l.length ∧ i = .int .i64 k ∧ Hid (l.take k = l'.take k) ∧ Below w.heap.size w wr) (fun i _ => l.length - (intOf i).toNat)
    case atStart => exact ⟨0, Nat.zero_le _, rfl, rfl, Below.refl _ _⟩
    case round =>
      obtain ⟨k, hk, rfl, htk, hb⟩ := hrel
      by_cases hlt : k < l.length
      · have hlt' : k < l'.length := by omega
        obtain ⟨b, off, u, rfl, _, hu, hc⟩ := (h.below hb).at_ hlt
        rw [show (strsV l)[k]? = some (strV l[k]) by simp [strsV, hlt]] at hu
        cases hu
        obtain ⟨b', off', u, rfl, _, hu, hc'⟩ := (h'.below hb).at_ hlt'
        rw [show (strsV l')[k]? = some (strV l'[k]) by simp [strsV, hlt']] at hu
        cases hu
        obtain ⟨x, hx⟩ : ∃ x, l[k] = x := ⟨_, rfl⟩
        obtain ⟨y, hy⟩ : ∃ y, l'[k] = y := ⟨_, rfl⟩
        have HX := Lib.hid hx
        have HY := Lib.hid hy
        rw [hx] at hc
        rw [hy] at hc'
        clear hx hy
        unfold strV at hc hc'
        by_cases hxy : x = y
        · have hn : (x.toList == y.toList) = true := by rw [hxy]; simp
          have HXY := Lib.hid hxy
          clear hxy
          go_wp2
          go_quiet (fail)
          go_wp2
          go_roundw
          case rel => exact ⟨k + 1, by omega, by go_num, by show l.take (k + 1) = l'.take (k + 1); rw [List.take_succ_eq_append_getElem hlt, List.take_succ_eq_append_getElem hlt', htk.out, HX.out, HY.out, HXY.out], by (repeat' (first | exact Below.refl _ _ | assumption | refine Below.setCell ?_ (by first | omega | exact Below.size (by assumption) | (simp; done) | (simp; omega)) _ | refine Below.alloc ?_ (by first | omega | exact Below.size (by assumption) | (simp; done) | (simp; omega)) _ | refine Below.drew ?_ | refine below_drewN ?_ _))⟩
          case measure => simp [intOf]; omega
        · have hn : (x.toList == y.toList) = false := by exact beq_eq_false_iff_ne.2 fun e => hxy (toList_inj.1 e)
          have HXY := Lib.hid hxy
          clear hxy
          go_wp2
          go_quiet (fail)
          go_wp2
          go_ret
          refine ⟨ret_val (by
            have : (l == l') = false := by
              rw [beq_eq_false_iff_ne]
              intro e
              subst e
              exact HXY.out (HX.out.symm.trans HY.out)
            rw [this]; rfl), by (repeat' (first | exact Below.refl _ _ | assumption | refine Below.setCell ?_ (by first | omega | exact Below.size (by assumption) | (simp; done) | (simp; omega)) _ | refine Below.alloc ?_ (by first | omega | exact Below.size (by assumption) | (simp; done) | (simp; omega)) _ | refine Below.drew ?_ | refine below_drewN ?_ _))⟩
      · go_wp2
        go_ret
        refine ⟨ret_val (by
          have hk' : k = l.length := by omega
          have : l = l' := by
            have := htk.out
            rw [hk', List.take_length] at this
            rw [HL.out, List.take_length] at this
            exact this
          rw [this]; simp), by (repeat' (first | exact Below.refl _ _ | assumption | refine Below.setCell ?_ (by first | omega | exact Below.size (by assumption) | (simp; done) | (simp; omega)) _ | refine Below.alloc ?_ (by first | omega | exact Below.size (by assumption) | (simp; done) | (simp; omega)) _ | refine Below.drew ?_ | refine below_drewN ?_ _))⟩
  · have hne : ((l.length : Int) != (l'.length : Int)) = true := by simp; omega
    have HL := Lib.hid hlen
    clear hlen
    go_enter Tryd.func20, Tryd.ntmps20
    go_wp2
    go_ret
    refine ⟨ret_val (by
      have : (l == l') = false := by
        rw [beq_eq_false_iff_ne]
        intro e
        exact HL.out (by rw [e])
      rw [this]; rfl), Below.refl _ _⟩

end Go.Proofs.YtokiekachlmigaaDoor
