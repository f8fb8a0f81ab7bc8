/- slices.EqualFunc over alike parts by the reference's SamePart. -/
import Derived.Test.YtmlomnhjbmocfaaDoorEqPt
import Derived.Test.YtmlomnhjbmocfaaDoorRefSame
import Derived.Laws.EntriesVeiled
set_option linter.all false
namespace Go.Proofs.YtmlomnhjbmocfaaDoor
open Go.RowKit

set_option maxHeartbeats 8000000 in
set_option maxRecDepth 100000 in
theorem equalPartsR_same (A A' : Option Addr) (c c' : Nat) (l l' : List PtM) (w : World) (h : PtsAt w w.heap.size A l) (h' : PtsAt w w.heap.size A' l') (hm : l.length ≤ 9223372036854775807) (he : l.map PtM.er = l'.map PtM.er) :
    Calls Tryd.prog 22 #[.slice A l.length c, .slice A' l'.length c', .func (.func 23) #[] #[]] w
      fun e w' => e = .returned (.bool true) ∧ Below w.heap.size w w' := by
  have hr := h.row
  have hr' := h'.row
  have G1 := Lib.hid h.each
  have G2 := Lib.hid h'.each
  clear h h'
  have hlen : l.length = l'.length := by have := congrArg List.length he; simpa using this
  have hne : ((l.length : Int) != (l'.length : Int)) = false := by rw [hlen]; simp
  have HL := Lib.hid hlen
  have HE := Lib.hid he
  have l0 : l.length ≤ l'.length := by omega
  clear hlen he
  go_enter Tryd.func22, Tryd.ntmps22
  go_wp2
  go_loopw [17] (fun i wr => ∃ k : Nat, k ≤ l.length ∧ i = .int .i64 k ∧ Below w.heap.size w wr) (fun i _ => l.length - (intOf i).toNat)
  case atStart => exact ⟨0, Nat.zero_le _, rfl, Below.refl _ _⟩
  case round =>
    obtain ⟨k, hk, rfl, hb⟩ := hrel
    by_cases hlt : k < l.length
    · have hlt' : k < l'.length := by omega
      obtain ⟨x, hx⟩ : ∃ x, l[k]? = some x := ⟨_, List.getElem?_eq_getElem hlt⟩
      obtain ⟨y, hy⟩ : ∃ y, l'[k]? = some y := ⟨_, List.getElem?_eq_getElem hlt'⟩
      have hX := (G1.out x (List.mem_of_getElem? hx)).keep hb hb.size
      have hY := (G2.out y (List.mem_of_getElem? hy)).keep hb hb.size
      obtain ⟨b, off, rfl, bl, c0, c1⟩ := pt_get (hr.below hb) hx
      obtain ⟨b', off', rfl, bl', d0, d1⟩ := pt_get ((hr'.below hb).alloc hb.size (.cells #[.slice (x).fa (x).frs.length (x).fc, .slice (x).da (x).dfs.length (x).dc] 25)) hy
      have bz := hb.size
      have z1 : b ≠ wr.heap.size := by omega
      have z2 : b' ≠ wr.heap.size := by omega
      have HXY : Hid (decide (x.er = y.er) = true) := decide_eq_true (by
        have := congrArg (fun m : List Prt => m[k]?) HE.out
        simp only [List.getElem?_map, hx, hy, Option.map_some, Option.some.injEq] at this
        exact this)
      clear hx hy
      go_wp2_with fail
      refine (samePart_any x y _ ?_ ?_).mono ?_
      · exact hX.keep (by (repeat' (first | exact Below.refl _ _ | assumption | refine Below.setCell ?_ (by first | omega | exact Below.size (by assumption) | (simp; done) | (simp; omega)) _ | refine Below.alloc ?_ (by first | omega | exact Below.size (by assumption) | (simp; done) | (simp; omega)) _ | refine Below.drew ?_ | refine below_drewN ?_ _))) (by simp; omega)
      · exact hY.keep (by (repeat' (first | exact Below.refl _ _ | assumption | refine Below.setCell ?_ (by first | omega | exact Below.size (by assumption) | (simp; done) | (simp; omega)) _ | refine Below.alloc ?_ (by first | omega | exact Below.size (by assumption) | (simp; done) | (simp; omega)) _ | refine Below.drew ?_ | refine below_drewN ?_ _))) (by simp; omega)
      rintro e w1 ⟨rfl, hb1⟩
      have hB : Below w.heap.size w w1 := Below.trans (by (repeat' (first | exact Below.refl _ _ | assumption | refine Below.setCell ?_ (by first | omega | exact Below.size (by assumption) | (simp; done) | (simp; omega)) _ | refine Below.alloc ?_ (by first | omega | exact Below.size (by assumption) | (simp; done) | (simp; omega)) _ | refine Below.drew ?_ | refine below_drewN ?_ _))) (hb1.mono (by have := hb.size; simp; omega))
      rw [HXY.out]
      clear hb1 c0 c1 d0 d1
      go_wp2
      go_roundw
      case rel => exact ⟨k + 1, by omega, by go_num, hB⟩
      case measure => simp [intOf]; omega
    · go_wp2
      go_ret
      exact ⟨rfl, hb⟩
end Go.Proofs.YtmlomnhjbmocfaaDoor
