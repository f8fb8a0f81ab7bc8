/- load.Check: what it computes. -/
import Derived.Test.YtbhjdinjoonngaaWalk
import Derived.Test.YtbhjdinjoonngaaBA
import Derived.WalkKit
import Derived.WalkSpells
import Derived.WalkLawsBesides
import Derived.BigGuardPart
import Derived.BigQuiet
import Derived.Deep.QuietTactic
import Derived.Outline
set_option linter.all false
namespace Go.Proofs.Ytbhjdinjoonngaa
open Go.RowKit

set_option maxHeartbeats 1000000 in
theorem loadCheck_any (entry : Int) (A : Option Addr) (c : Nat) (segs : List Seg) (w : World) (h : SegsAt w w.heap.size A segs) :
    Calls Try.prog 44 #[.agg #[.int .i64 entry, .slice A segs.length c]] w fun e w' => e = .returned (.int .i64 (ckImg entry segs)) ∧ Below w.heap.size w w' := by
  go_enter Try.func44, Try.ntmps44
  go_wp2
  · go_ret
    exact ⟨ret_int (ckImg_many (by assumption)).symm, by (repeat' (first | exact Below.refl _ _ | assumption | refine Below.setCell ?_ (by first | omega | exact Below.size (by assumption) | (simp; done) | (simp; omega)) _ | refine Below.alloc ?_ (by first | omega | exact Below.size (by assumption) | (simp; done) | (simp; omega)) _ | refine Below.drew ?_ | refine below_drewN ?_ _))⟩
  · go_loopw [3, 13] (fun e i wr => ∃ (k : Nat) (en : Int), k ≤ segs.length ∧ i = .int .i64 k ∧ e = .int .i64 en ∧ 0 ≤ en ∧ en ≤ 65536 ∧ Hid (ckSegs segs 0 = ckSegs (segs.drop k) en) ∧ Below w.heap.size w wr ∧ w.heap.size < wr.heap.size ∧ wr.cell? ⟨w.heap.size, 0, none⟩ = some (.int .i64 entry)) (fun _ i _ => segs.length - (intOf i).toNat)
    case atStart => exact ⟨0, 0, Nat.zero_le _, rfl, rfl, by omega, by omega, rfl, (Below.refl _ _).alloc (Nat.le_refl _) _, by simp, by simp⟩
    case round =>
      obtain ⟨k, en, hk, rfl, rfl, he0, he1, hck, hb, hz, hcell⟩ := hrel
      by_cases hlt : k < segs.length
      · obtain ⟨b, off, rfl, hab, hcs⟩ := (h.row.below hb).2 (by omega)
        obtain ⟨s, hs⟩ : ∃ s, s = segs[k] := ⟨_, rfl⟩
        have hc : ∀ j u, j < 5 → s.cells[j]? = some u → wr.cell? ⟨b, off + k * 5 + j, none⟩ = some u := fun j u hj hu => by rw [Nat.add_assoc]; exact hcs _ u (by rw [flatMap5_get _ _ _ hj hlt, ← hs]; exact hu)
        have h0 := hc 0 _ (by omega) rfl
        have h1 := hc 1 _ (by omega) rfl
        have h2 := hc 2 _ (by omega) rfl
        have h3 := hc 3 _ (by omega) rfl
        have h4 := hc 4 _ (by omega) rfl
        rw [Nat.add_zero] at h0
        have HD := Lib.hid (show segs.drop k = s :: segs.drop (k + 1) by rw [hs]; exact List.drop_eq_getElem_cons hlt)
        clear hc hcs hs
        go_wp2
        all_goals first
          | (go_ret; exact ⟨ret_int (ckImg_stop (by assumption) hck.out HD.out (ckSegs_bad (by omega)) (by decide)).symm, by (repeat' (first | exact Below.refl _ _ | assumption | refine Below.setCell ?_ (by first | omega | exact Below.size (by assumption) | (simp; done) | (simp; omega)) _ | refine Below.alloc ?_ (by first | omega | exact Below.size (by assumption) | (simp; done) | (simp; omega)) _ | refine Below.drew ?_ | refine below_drewN ?_ _))⟩)
          | (go_ret; exact ⟨ret_int (ckImg_stop (by assumption) hck.out HD.out (ckSegs_over (by omega) (by omega) (by omega) (by omega) (by omega) (by omega)) (by decide)).symm, by (repeat' (first | exact Below.refl _ _ | assumption | refine Below.setCell ?_ (by first | omega | exact Below.size (by assumption) | (simp; done) | (simp; omega)) _ | refine Below.alloc ?_ (by first | omega | exact Below.size (by assumption) | (simp; done) | (simp; omega)) _ | refine Below.drew ?_ | refine below_drewN ?_ _))⟩)
          | (go_roundw
             case rel => exact ⟨k + 1, _, by omega, by go_num, rfl, by omega, by omega, by have e1 := hck.out; rw [HD.out, ckSegs_next (by omega) (by omega) (by omega) (by omega) (by omega) (by omega)] at e1; exact e1, by (repeat' (first | exact Below.refl _ _ | assumption | refine Below.setCell ?_ (by first | omega | exact Below.size (by assumption) | (simp; done) | (simp; omega)) _ | refine Below.alloc ?_ (by first | omega | exact Below.size (by assumption) | (simp; done) | (simp; omega)) _ | refine Below.drew ?_ | refine below_drewN ?_ _)), by simp; omega, by simp [World.cell?_alloc_lt, hcell, hz]⟩
             case measure => simp [intOf]; omega)
      · go_wp2
        all_goals
          go_ret
          exact ⟨ret_int (by rw [ckImg_end (by assumption) hck.out (by omega)]; first | rw [if_pos (by omega)] | rw [if_neg (by omega)]), by (repeat' (first | exact Below.refl _ _ | assumption | refine Below.setCell ?_ (by first | omega | exact Below.size (by assumption) | (simp; done) | (simp; omega)) _ | refine Below.alloc ?_ (by first | omega | exact Below.size (by assumption) | (simp; done) | (simp; omega)) _ | refine Below.drew ?_ | refine below_drewN ?_ _))⟩
end Go.Proofs.Ytbhjdinjoonngaa
