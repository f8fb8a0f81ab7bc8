/- plan.Make: what it computes. -/
import Derived.Test.YtkkjfjbkhafaiaaPlanM
namespace Go.Proofs.Ytkkjfjbkhafaiaa
open Go.RowKit

/-- What plan.Make answers. -/
def makeRes (parts : Int) (picks : List Int) : List Nd × Int :=
  if parts < 1 ∨ 12 < parts then ([], 3) else if 23 < picks.length then ([], 2) else ((growT (fun j => picks.getD j 0) parts.toNat 0).flat 0 0, 0)
theorem makeRes_range {parts : Int} {picks : List Int} (h : parts < 1 ∨ 12 < parts) : makeRes parts picks = ([], 3) := by unfold makeRes; rw [if_pos h]
theorem makeRes_many {parts : Int} {picks : List Int} (h : ¬ (parts < 1 ∨ 12 < parts)) (h1 : 23 < picks.length) : makeRes parts picks = ([], 2) := by unfold makeRes; rw [if_neg h, if_pos h1]
theorem makeRes_ok {parts : Int} {picks : List Int} (h : ¬ (parts < 1 ∨ 12 < parts)) (h1 : ¬ 23 < picks.length) : makeRes parts picks = ((growT (fun j => picks.getD j 0) parts.toNat 0).flat 0 0, 0) := by unfold makeRes; rw [if_neg h, if_neg h1]

def MakeIs (w : World) (r : List Nd × Int) (e : Ending) (w' : World) : Prop := ∃ v, e = .returned (.tuple #[v, .int .i64 r.2]) ∧ RowAt w' v 3 r.1.length (ndCells r.1) ∧ Below w.heap.size w w'

/-- The world in which plan.Make first calls its closure. -/
def grow0 (w : World) (A : Option Addr) (n c : Nat) : World :=
  (((w.alloc (.cells #[.slice A n c] 45)).alloc (.cells #[.slice none 0 0] 46)).alloc (.cells #[.int .i64 0] 3)).alloc (.cells #[growV (w.heap.size + 1) (w.heap.size + 1 + 1) w.heap.size (w.heap.size + 1 + 1 + 1)] 74)
theorem GS.start {A : Option Addr} {c : Nat} {picks : List Int} {w : World} (h : Reads w w.heap.size 1 A picks.length (intsV picks)) :
    GS A c picks w.heap.size (w.heap.size + 1) (w.heap.size + 1 + 1) w.heap.size (w.heap.size + 1 + 1 + 1) [] 0 (.slice none 0 0) (grow0 w A picks.length c) ∧ Below w.heap.size w (grow0 w A picks.length c) := by
  have hb : Below w.heap.size w (grow0 w A picks.length c) := by unfold grow0; (repeat' (first | exact Below.refl _ _ | assumption | refine Below.setCell ?_ (by first | omega | exact Below.size (by assumption) | (simp; done) | (simp; omega)) _ | refine Below.alloc ?_ (by first | omega | exact Below.size (by assumption) | (simp; done) | (simp; omega)) _ | refine Below.drew ?_ | refine below_drewN ?_ _))
  refine ⟨⟨?_, World.ownsRow_nil _ _ _ _, ?_, ?_, ?_, h.below hb⟩, hb⟩
  · exact ((Blk.new' (w.alloc _) _ _ (by simp)).alloc _).alloc _
  · exact (Blk.new' ((w.alloc _).alloc _) _ _ (by simp)).alloc _
  · exact (((Blk.new' w _ _ rfl).alloc _).alloc _).alloc _
  · exact Blk.new' (((w.alloc _).alloc _).alloc _) _ _ (by simp)

set_option maxHeartbeats 2000000 in
theorem make_any (parts : Int) (A : Option Addr) (c : Nat) (picks : List Int) (w : World) (h : Reads w w.heap.size 1 A picks.length (intsV picks)) (hm : picks.length ≤ 9223372036854775807) :
    Calls Try.prog 15 #[.int .i64 parts, .slice A picks.length c] w (MakeIs w (makeRes parts picks)) := by
  unfold MakeIs
  by_cases hr : parts < 1 ∨ 12 < parts
  · have HR := Lib.hid (makeRes_range (picks := picks) hr)
    go_enter Try.func15, Try.ntmps15
    go_wp2
    all_goals first
      | (go_ret2; rw [HR.out]; exact ⟨_, rfl, RowAt.nil _ _, by (repeat' (first | exact Below.refl _ _ | assumption | refine Below.setCell ?_ (by first | omega | exact Below.size (by assumption) | (simp; done) | (simp; omega)) _ | refine Below.alloc ?_ (by first | omega | exact Below.size (by assumption) | (simp; done) | (simp; omega)) _ | refine Below.drew ?_ | refine below_drewN ?_ _))⟩)
      | (exfalso; omega)
  · have r0 : 1 ≤ parts := by omega
    have r1 : parts ≤ 12 := by omega
    have g1 : decide (parts < 1) = false := by simp; omega
    have g2 : decide (12 < parts) = false := by simp; omega
    by_cases h23 : 23 < picks.length
    · have HR := Lib.hid (makeRes_many hr h23)
      clear hr
      go_enter Try.func15, Try.ntmps15
      go_wp2
      go_ret2
      rw [HR.out]
      exact ⟨_, rfl, RowAt.nil _ _, by (repeat' (first | exact Below.refl _ _ | assumption | refine Below.setCell ?_ (by first | omega | exact Below.size (by assumption) | (simp; done) | (simp; omega)) _ | refine Below.alloc ?_ (by first | omega | exact Below.size (by assumption) | (simp; done) | (simp; omega)) _ | refine Below.drew ?_ | refine below_drewN ?_ _))⟩
    · have HR := Lib.hid (makeRes_ok hr h23)
      clear hr
      have h23' : picks.length ≤ 23 := by omega
      obtain ⟨n, rfl⟩ : ∃ n : Nat, parts = n := ⟨parts.toNat, by omega⟩
      go_enter Try.func15, Try.ntmps15
      go_wp2_with fail
      obtain ⟨s0, hb0⟩ := GS.start (c := c) h
      have I := grow_any A c picks w.heap.size (w.heap.size + 1) (w.heap.size + 1 + 1) w.heap.size (w.heap.size + 1 + 1 + 1) (by omega) (by omega) h23' n 0 0 [] _ _ (by omega) (by omega) (by omega) (by simp; omega) hb0.size s0
      rw [show ((0 : Nat) : Int) = 0 from rfl] at I
      unfold grow0 growV ptr at I
      unfold grow0 growV ptr at hb0
      refine I.mono ?_
      rintro e w1 ⟨v1, rfl, hs1, hb1⟩
      have hbb := hb0.trans hb1
      have cL := hs1.hL.cell 0
      have hrow := RowAt.of_own hs1.own
      clear hs1 hb1 hb0 I s0
      go_wp2
      go_ret2
      rw [HR.out]
      exact ⟨_, rfl, by simpa using hrow, hbb⟩
end Go.Proofs.Ytkkjfjbkhafaiaa
