/- slices.EqualFunc at parts, with obj.Same. -/
import Derived.Test.YtmlomnhjbmocfaaDoorAllW
import Derived.Test.YtmlomnhjbmocfaaDoorSameW
set_option linter.all false
namespace Go.Proofs.YtmlomnhjbmocfaaDoor
open Go.RowKit

theorem pts_no {l l' : List PtM} {k : Nat} {x y : PtM} (hx : l[k]? = some x) (hy : l'[k]? = some y) (hd : decide (x.er = y.er) = false) : decide (l.map PtM.er = l'.map PtM.er) = false := by
  refine decide_eq_false fun h => of_decide_eq_false hd ?_
  have := congrArg (fun m : List Prt => m[k]?) h
  simp only [List.getElem?_map, hx, hy, Option.map_some, Option.some.injEq] at this
  exact this
set_option maxHeartbeats 8000000 in
set_option maxRecDepth 100000 in
theorem equalParts_any (A A' : Option Addr) (c c' : Nat) (l l' : List PtM) (w : World) (h : PtsAt w w.heap.size A l) (h' : PtsAt w w.heap.size A' l') (hm : l.length ≤ 9223372036854775807) (hm' : l'.length ≤ 9223372036854775807) :
    Calls Tryd.prog 22 #[.slice A l.length c, .slice A' l'.length c', .func (.func 26) #[] #[]] w
      fun e w' => e = .returned (.bool (decide (l.map PtM.er = l'.map PtM.er))) ∧ Below w.heap.size w w' := by
  have hr := h.row
  have hr' := h'.row
  have G1 := Lib.hid h.each
  have G2 := Lib.hid h'.each
  clear h h'
  by_cases hlen : l.length = l'.length
  · have hne : ((l.length : Int) != (l'.length : Int)) = false := by rw [hlen]; simp
    have HL := Lib.hid hlen
    have l0 : l.length ≤ l'.length := by omega
    clear hlen
    go_enter Tryd.func22, Tryd.ntmps22
    go_wp2
    go_loopw [17] (fun i wr => ∃ k : Nat, k ≤ l.length ∧ i = .int .i64 k ∧ Hid ((l.take k).map PtM.er = (l'.take k).map PtM.er) ∧ Below w.heap.size w wr) (fun i _ => l.length - (intOf i).toNat)
    case atStart => exact ⟨0, Nat.zero_le _, rfl, Lib.hid (by simp), Below.refl _ _⟩
    case round =>
      obtain ⟨k, hk, rfl, htk, hb⟩ := hrel
      by_cases hlt : k < l.length
      · have hlt' : k < l'.length := by omega
        obtain ⟨x, hx⟩ : ∃ x, l[k]? = some x := ⟨_, List.getElem?_eq_getElem hlt⟩
        obtain ⟨y, hy⟩ : ∃ y, l'[k]? = some y := ⟨_, List.getElem?_eq_getElem hlt'⟩
        have hX := (G1.out x (List.mem_of_getElem? hx)).keep hb hb.size
        have hY := (G2.out y (List.mem_of_getElem? hy)).keep hb hb.size
        obtain ⟨b, off, rfl, bl, c0, c1⟩ := pt_get (hr.below hb) hx
        obtain ⟨b', off', rfl, bl', d0, d1⟩ := pt_get ((hr'.below hb).alloc hb.size (.cells #[.slice (x).fa (x).frs.length (x).fc, .slice (x).da (x).dfs.length (x).dc] 25)) hy
        have bz := hb.size
        have z1 : b ≠ wr.heap.size := by omega
        have z2 : b' ≠ wr.heap.size := by omega
        have HX := Lib.hid hx
        have HY := Lib.hid hy
        have HT : Hid (x.er = y.er → (l.take (k + 1)).map PtM.er = (l'.take (k + 1)).map PtM.er) := fun e => by
          rw [List.take_add_one, List.take_add_one, hx, hy, List.map_append, List.map_append, htk.out]
          simp [e]
        clear hx hy
        go_wp2_with fail
        refine (same_any x y _ ?_ ?_).mono ?_
        · exact hX.keep (by (repeat' (first | exact Below.refl _ _ | assumption | refine Below.setCell ?_ (by first | omega | exact Below.size (by assumption) | (simp; done) | (simp; omega)) _ | refine Below.alloc ?_ (by first | omega | exact Below.size (by assumption) | (simp; done) | (simp; omega)) _ | refine Below.drew ?_ | refine below_drewN ?_ _))) (by simp; omega)
        · exact hY.keep (by (repeat' (first | exact Below.refl _ _ | assumption | refine Below.setCell ?_ (by first | omega | exact Below.size (by assumption) | (simp; done) | (simp; omega)) _ | refine Below.alloc ?_ (by first | omega | exact Below.size (by assumption) | (simp; done) | (simp; omega)) _ | refine Below.drew ?_ | refine below_drewN ?_ _))) (by simp; omega)
        rintro e w1 ⟨rfl, hb1⟩
        have hB : Below w.heap.size w w1 := Below.trans (by (repeat' (first | exact Below.refl _ _ | assumption | refine Below.setCell ?_ (by first | omega | exact Below.size (by assumption) | (simp; done) | (simp; omega)) _ | refine Below.alloc ?_ (by first | omega | exact Below.size (by assumption) | (simp; done) | (simp; omega)) _ | refine Below.drew ?_ | refine below_drewN ?_ _))) (hb1.mono (by have := hb.size; simp; omega))
        clear hb1 c0 c1 d0 d1
        rcases hd : decide (x.er = y.er) with _ | _
        · have HN := Lib.hid (pts_no HX.out HY.out hd)
          clear hd
          go_wp2
          go_ret
          exact ⟨ret_val (by rw [HN.out]; rfl), hB⟩
        · have hd' := HT.out (of_decide_eq_true hd)
          replace hd' := Lib.hid hd'
          clear hd
          go_wp2
          go_roundw
          case rel => exact ⟨k + 1, by omega, by go_num, hd', hB⟩
          case measure => simp [intOf]; omega
      · have hk' : k = l.length := by omega
        have HT : Hid (l.map PtM.er = l'.map PtM.er) := by
          have e1 := htk.out
          rw [hk', List.take_length, HL.out, List.take_length] at e1
          exact e1
        have HD := Lib.hid (decide_eq_true HT.out)
        clear hk'
        go_wp2
        go_ret
        exact ⟨ret_val (by rw [HD.out]; rfl), hb⟩
  · have hne : ((l.length : Int) != (l'.length : Int)) = true := by simp; omega
    have HN : Hid (decide (l.map PtM.er = l'.map PtM.er) = false) := decide_eq_false fun h => hlen (by have := congrArg List.length h; simpa using this)
    clear hlen
    go_enter Tryd.func22, Tryd.ntmps22
    go_wp2
    go_ret
    exact ⟨ret_val (by rw [HN.out]; rfl), Below.refl _ _⟩

/-! ### the closure: is a name among those? -/
end Go.Proofs.YtmlomnhjbmocfaaDoor
