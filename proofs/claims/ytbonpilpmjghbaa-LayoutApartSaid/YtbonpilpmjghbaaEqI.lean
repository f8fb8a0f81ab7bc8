/- slices.Equal over ints. -/
import Derived.Test.YtbonpilpmjghbaaWalk
set_option linter.all false
namespace Go.Proofs.Ytbonpilpmjghbaa
open Go.RowKit

set_option maxHeartbeats 1000000 in
theorem equalInts_any (A A' : Option Addr) (c c' : Nat) (l l' : List Int) (w : World) (h : Reads w w.heap.size 1 A l.length (intsV l)) (h' : Reads w w.heap.size 1 A' l'.length (intsV l')) (hm : l.length ≤ 9223372036854775807) :
    Calls Try.prog 80 #[.slice A l.length c, .slice A' l'.length c'] w fun e w' => e = .returned (.bool (l == l')) ∧ Below w.heap.size w w' := by
  by_cases hlen : l.length = l'.length
  · have hne : ((l.length : Int) != (l'.length : Int)) = false := by rw [hlen]; simp
    have HL := Lib.hid hlen
    have l0 : l.length ≤ l'.length := by omega
    clear hlen
    go_enter Try.func80, Try.ntmps80
    go_wp2
    go_loopw [13] (fun i wr => ∃ k : Nat, k ≤ l.length ∧ i = .int .i64 k ∧ Hid (l.take k = l'.take k) ∧ Below w.heap.size w wr) (fun i _ => l.length - (intOf i).toNat)
    case atStart => exact ⟨0, Nat.zero_le _, rfl, rfl, Below.refl _ _⟩
    case round =>
      obtain ⟨k, hk, rfl, htk, hb⟩ := hrel
      by_cases hlt : k < l.length
      · have hlt' : k < l'.length := by omega
        obtain ⟨b, off, u, rfl, _, hu, hc⟩ := (h.below hb).at_ hlt
        rw [show (intsV l)[k]? = some (intV l[k]) by simp [intsV, hlt]] at hu
        cases hu
        obtain ⟨b', off', u, rfl, _, hu, hc'⟩ := (h'.below hb).at_ hlt'
        rw [show (intsV l')[k]? = some (intV l'[k]) by simp [intsV, hlt']] at hu
        cases hu
        obtain ⟨x, hx⟩ : ∃ x, l[k] = x := ⟨_, rfl⟩
        obtain ⟨y, hy⟩ : ∃ y, l'[k] = y := ⟨_, rfl⟩
        have HX := Lib.hid hx
        have HY := Lib.hid hy
        rw [hx] at hc
        rw [hy] at hc'
        clear hx hy
        unfold intV at hc hc'
        by_cases hxy : x = y
        · have hn : (x != y) = false := by rw [hxy]; simp
          have HXY := Lib.hid hxy
          clear hxy
          go_wp2
          go_quiet (fail)
          go_wp2
          go_roundw
          case rel => exact ⟨k + 1, by omega, by go_num, by show l.take (k + 1) = l'.take (k + 1); rw [List.take_succ_eq_append_getElem hlt, List.take_succ_eq_append_getElem hlt', htk.out, HX.out, HY.out, HXY.out], by (repeat' (first | exact Below.refl _ _ | assumption | refine Below.setCell ?_ (by first | omega | exact Below.size (by assumption) | (simp; done) | (simp; omega)) _ | refine Below.alloc ?_ (by first | omega | exact Below.size (by assumption) | (simp; done) | (simp; omega)) _ | refine Below.drew ?_ | refine below_drewN ?_ _))⟩
          case measure => simp [intOf]; omega
        · have hn : (x != y) = true := by simpa using hxy
          have HXY := Lib.hid hxy
          clear hxy
          go_wp2
          go_quiet (fail)
          go_wp2
          go_ret
          refine ⟨ret_val (by
            have : (l == l') = false := by
              rw [beq_eq_false_iff_ne]
              intro e
              subst e
              exact HXY.out (HX.out.symm.trans HY.out)
            rw [this]; rfl), by (repeat' (first | exact Below.refl _ _ | assumption | refine Below.setCell ?_ (by first | omega | exact Below.size (by assumption) | (simp; done) | (simp; omega)) _ | refine Below.alloc ?_ (by first | omega | exact Below.size (by assumption) | (simp; done) | (simp; omega)) _ | refine Below.drew ?_ | refine below_drewN ?_ _))⟩
      · go_wp2
        go_ret
        refine ⟨ret_val (by
          have hk' : k = l.length := by omega
          have : l = l' := by
            have := htk.out
            rw [hk', List.take_length] at this
            rw [HL.out, List.take_length] at this
            exact this
          rw [this]; simp), by (repeat' (first | exact Below.refl _ _ | assumption | refine Below.setCell ?_ (by first | omega | exact Below.size (by assumption) | (simp; done) | (simp; omega)) _ | refine Below.alloc ?_ (by first | omega | exact Below.size (by assumption) | (simp; done) | (simp; omega)) _ | refine Below.drew ?_ | refine below_drewN ?_ _))⟩
  · have hne : ((l.length : Int) != (l'.length : Int)) = true := by simp; omega
    have HL := Lib.hid hlen
    clear hlen
    go_enter Try.func80, Try.ntmps80
    go_wp2
    go_ret
    refine ⟨ret_val (by
      have : (l == l') = false := by
        rw [beq_eq_false_iff_ne]
        intro e
        exact HL.out (by rw [e])
      rw [this]; rfl), Below.refl _ _⟩

end Go.Proofs.Ytbonpilpmjghbaa
