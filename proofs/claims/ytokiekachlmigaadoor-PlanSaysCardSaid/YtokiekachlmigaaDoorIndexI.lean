/- slices.Index, Contains over ints; ropewalkref.IsAlign. -/
import Derived.Test.YtokiekachlmigaaDoorBA
import Derived.Test.YtokiekachlmigaaDoorWalk
set_option linter.all false
namespace Go.Proofs.YtokiekachlmigaaDoor
open Go.RowKit

/-- The first place of a number in a list, or -1. -/
def indexI (s : Int) (l : List Int) : Int := match l.findIdx? (fun t => t == s) with
  | some k => k
  | none => -1
theorem indexI_in {s : Int} {l : List Int} : decide (0 ≤ indexI s l) = decide (s ∈ l) := by
  unfold indexI
  rcases h : l.findIdx? (fun t => t == s) with _ | k
  · have : s ∉ l := fun hm => by
      have := List.findIdx?_eq_none_iff.1 h s hm
      simp at this
    simp [this]
  · have : s ∈ l := by
      rw [List.findIdx?_eq_some_iff_getElem] at h
      obtain ⟨hk, he, _⟩ := h
      have : l[k] = s := by simpa using he
      rw [← this]; exact List.getElem_mem hk
    simp [this]
theorem indexI_at {s : Int} {l : List Int} {k : Nat} (hn : ∀ x ∈ l.take k, x ≠ s) (hk : l[k]? = some s) : indexI s l = k := by
  obtain ⟨hlt, hv⟩ := List.getElem?_eq_some_iff.1 hk
  have : l.findIdx? (fun t => t == s) = some k := by
    rw [List.findIdx?_eq_some_iff_getElem]
    refine ⟨hlt, by simp [hv], fun j hj => ?_⟩
    have := hn l[j] (by rw [List.mem_take_iff_getElem]; exact ⟨j, by omega, rfl⟩)
    simpa using this
  unfold indexI
  rw [this]
theorem indexI_no {s : Int} {l : List Int} (hn : ∀ x ∈ l, x ≠ s) : indexI s l = -1 := by
  have : l.findIdx? (fun t => t == s) = none := List.findIdx?_eq_none_iff.2 fun x hx => by simpa using hn x hx
  unfold indexI
  rw [this]

set_option maxHeartbeats 1000000 in
theorem indexItr_any (A : Option Addr) (c : Nat) (l : List Int) (s : Int) (w : World) (h : Reads w w.heap.size 1 A l.length (intsV l)) (hm : l.length ≤ 9223372036854775807) :
    Calls Tryd.prog 155 #[.slice A l.length c, .int .i64 s] w fun e w' => e = .returned (.int .i64 (indexI s l)) ∧ w = w' := by
  go_enter Tryd.func155, Tryd.ntmps155
  go_wp2
  go_loop [8] (fun i => ∃ k : Nat, k ≤ l.length ∧ i = .int .i64 k ∧ Hid (∀ x ∈ l.take k, x ≠ s)) (fun i => l.length - (intOf i).toNat)
  case atStart => exact ⟨0, Nat.zero_le _, rfl, Lib.hid (by simp)⟩
  case round =>
    obtain ⟨k, hk, rfl, hn⟩ := hrel
    by_cases hlt : k < l.length
    · obtain ⟨b, off, u, rfl, _, hu, hc⟩ := h.at_ hlt
      obtain ⟨x, hx⟩ : ∃ x, l[k]? = some x := ⟨_, List.getElem?_eq_getElem hlt⟩
      rw [show (intsV l)[k]? = some (intV x) by simp [intsV, hx]] at hu
      cases hu
      unfold intV at hc
      have HX := Lib.hid hx
      clear hx
      by_cases hxs : s = x
      · have ht : (s == x) = true := by rw [hxs]; simp
        subst hxs
        have HI := Lib.hid (indexI_at hn.out HX.out)
        go_wp2
        go_ret
        exact ⟨ret_val (by rw [HI.out]; rfl), rfl⟩
      · have ht : (s == x) = false := beq_eq_false_iff_ne.2 hxs
        have HXS := Lib.hid hxs
        clear hxs
        go_wp2
        go_round
        case rel =>
          refine ⟨k + 1, by omega, by go_num, Lib.hid ?_⟩
          rw [List.take_add_one, HX.out]
          intro y hy
          rcases List.mem_append.1 hy with hy | hy
          · exact hn.out y hy
          · obtain rfl : y = x := by simpa using hy
            exact fun e => HXS.out e.symm
        case measure => simp [intOf]; omega
    · obtain rfl : k = l.length := by omega
      have HI := Lib.hid (indexI_no (s := s) (l := l) (by have := hn.out; rwa [List.take_length] at this))
      go_wp2
      go_ret
      exact ⟨ret_val (by rw [HI.out]; rfl), rfl⟩

set_option maxHeartbeats 1000000 in
theorem containsInt_any (A : Option Addr) (c : Nat) (l : List Int) (s : Int) (w : World) (h : Reads w w.heap.size 1 A l.length (intsV l)) (hm : l.length ≤ 9223372036854775807) :
    Calls Tryd.prog 113 #[.slice A l.length c, .int .i64 s] w fun e w' => e = .returned (.bool (decide (s ∈ l))) ∧ w = w' := by
  obtain ⟨n, hn⟩ : ∃ n, indexI s l = n := ⟨_, rfl⟩
  have HN := Lib.hid (indexI_in (s := s) (l := l))
  have HI := indexItr_any A c l s w h hm
  rw [hn] at HN HI
  clear hn
  go_enter Tryd.func113, Tryd.ntmps113
  go_wp2_with fail
  refine HI.mono ?_
  rintro e w' ⟨rfl, rfl⟩
  go_wp2
  go_ret
  exact ⟨ret_val (by rw [← HN.out]; rfl), rfl⟩


set_option maxHeartbeats 1000000 in
theorem isAlign_any (n : Int) (w : World) : Calls Tryd.prog 62 #[.int .i64 n] w fun e w' => e = .returned (.bool (alignB n)) ∧ Below w.heap.size w w' := by
  have hb : Below w.heap.size w (w.alloc (.cells #[.int .i64 1, .int .i64 2, .int .i64 4, .int .i64 8] 3)) := by (repeat' (first | exact Below.refl _ _ | assumption | refine Below.setCell ?_ (by first | omega | exact Below.size (by assumption) | (simp; done) | (simp; omega)) _ | refine Below.alloc ?_ (by first | omega | exact Below.size (by assumption) | (simp; done) | (simp; omega)) _ | refine Below.drew ?_ | refine below_drewN ?_ _))
  have hr := (Blk.new w 3 #[.int .i64 1, .int .i64 2, .int .i64 4, .int .i64 8]).reads (size := 1) (n := 4) rfl
  have HC := Lib.hid (containsInt_any (some ⟨w.heap.size, 0, none⟩) 4 [1, 2, 4, 8] n _ hr (by simp))
  have HA : Hid (decide (n ∈ [1, 2, 4, 8]) = alignB n) := by
    show _ = _
    unfold alignB
    rw [Bool.eq_iff_iff]
    simp [or_assoc]
  rw [HA.out] at HC
  go_enter Tryd.func62, Tryd.ntmps62
  go_wp2_with fail
  refine HC.out.mono ?_
  rintro e w' ⟨rfl, rfl⟩
  go_wp2
  go_ret
  exact ⟨rfl, hb⟩
end Go.Proofs.YtokiekachlmigaaDoor
