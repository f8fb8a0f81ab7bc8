/- ropewalkref.IsReady: what it computes. -/
import Derived.Test.YtokiekachlmigaaDoorRefPlan
import Derived.Test.YtokiekachlmigaaDoorPlB
set_option linter.all false
namespace Go.Proofs.YtokiekachlmigaaDoor
open Go.RowKit

set_option maxHeartbeats 4000000 in
set_option maxRecDepth 100000 in
theorem isReady_any (A A' : Option Addr) (c c' : Nat) (l : List Nd) (parts : Int) (done : List Bool) (w : World) (h : Reads w w.heap.size 3 A l.length (ndCells l)) (h' : Reads w w.heap.size 1 A' done.length (boolsV done))
    (hck : ckPlan l parts = 0) (hl : done.length = l.length) :
    Calls Tryd.prog 48 #[.slice A l.length c, .slice A' done.length c'] w fun e w' => ∃ v, e = .returned v ∧ w'.ownsRow w.heap.size 3 1 v (readyUpto l done l.length).length (intsV (readyUpto l done l.length)) ∧ Below w.heap.size w w' := by
  obtain ⟨i0, hi, hz0, hz1, hz2⟩ := info_parts Tryd.infoIntsR
  have HL := Lib.hid hl
  have l1 : done.length ≤ l.length := by omega
  have l2 : l.length ≤ done.length := by omega
  have hZ := ckPlan_zero hck
  have h23 : l.length ≤ 23 := hZ.2.2.1
  have HF := Lib.hid hZ.2.2.2.2.1
  clear hl hZ hck
  go_enter Tryd.func48, Tryd.ntmps48
  go_wp2_with fail
  go_loopw [5, 10] (fun v i wr => ∃ k : Nat, k ≤ l.length ∧ i = .int .i64 k ∧ wr.ownsRow w.heap.size 3 1 v (readyUpto l done k).length (intsV (readyUpto l done k)) ∧ Below w.heap.size w wr) (fun _ i _ => l.length - (intOf i).toNat)
  case atStart => exact ⟨0, Nat.zero_le _, rfl, World.ownsRow_nil _ _ _ _, Below.refl _ _⟩
  case round =>
    obtain ⟨k, hk, rfl, hown, hb⟩ := hrel
    obtain ⟨A5, c5, rfl, _, _⟩ := own_form hown
    by_cases hlt : k < l.length
    · obtain ⟨x, hx⟩ : ∃ x, l[k]? = some x := ⟨_, List.getElem?_eq_getElem hlt⟩
      obtain ⟨b, off, rfl, hb1, c0, c1, c2⟩ := nd_cells (h.below hb) hx
      obtain ⟨b', off', p, rfl, hb1', hp, d0⟩ := bools_at (h'.below hb) (by omega : k < done.length)
      have hlt' : b' < wr.heap.size := by have := hb.size; omega
      have HP := Lib.hid hp
      have HX := Lib.hid hx
      have hbad := HF.out k x hx
      clear hp hx
      have hnot : readyAt l done k = false → Hid (readyUpto l done (k + 1) = readyUpto l done k) := fun hn => by
        show readyUpto l done (k + 1) = _
        rw [readyUpto, hn]; rfl
      have hyes : readyAt l done k = true → Hid (readyUpto l done (k + 1) = readyUpto l done k ++ [(k : Int)]) := fun hn => by
        show readyUpto l done (k + 1) = _
        rw [readyUpto, hn]; rfl
      rcases p with _ | _
      · have hlenk := readyUpto_len l done k
        by_cases h0 : 0 ≤ x.leaf
        · have HN := hyes (readyAt_leaf HX.out HP.out h0)
          have h0' : decide (x.leaf < 0) = false := decide_eq_false (by omega)
          clear hnot hyes hbad h0
          (go_wp2_with (at_builtin; refine wpList_append_own _ rfl (.tmp 39) (.tmp 41) 47 rfl w.heap.size 3 i0 (.int .i64 0) 1 8 Tryd.underlying47 hi hz0 hz1 hz2 rfl (by decide) _ _ _ rfl ((hown.alloc _).alloc _) ⟨_, 0, none⟩ 1 1 [.int .i64 k] rfl rfl ?c1 ?c2 ?c3 ?c4 ?c5 ?_; (case c1 => exact one_cell2); (case c2 => intro u hu; simp at hu; subst hu; rfl); (case c3 => unfold maxLen; omega); (case c4 => omega); (case c5 => have := hb.size; simp; omega); intro v' w3 hown3 hg3 _; obtain ⟨hp3, hz3⟩ := own_push (hown.alloc _) hg3 (by have := hb.size; simp; omega); have RB : Below w.heap.size w w3 := (hb.alloc hb.size _).trans hp3; clear hp3 hg3 hown); go_roundw; (case rel => exact ⟨k + 1, by omega, by go_num, by rw [HN.out]; simpa [intsV, intV] using hown3, RB⟩); (case measure => simp [intOf]; omega))
        · unfold Nd.bad at hbad
          rw [if_neg h0] at hbad
          obtain ⟨a, ha⟩ : ∃ a : Nat, x.left = a := ⟨x.left.toNat, by omega⟩
          obtain ⟨d, hd⟩ : ∃ d : Nat, x.right = d := ⟨x.right.toNat, by omega⟩
          obtain ⟨b2, off2, p, he, _, hp, d1⟩ := bools_at (h'.below hb) (by omega : a < done.length)
          cases he
          obtain ⟨b2, off2, q, he, _, hq, d2⟩ := bools_at (h'.below hb) (by omega : d < done.length)
          cases he
          have hr := readyAt_node HX.out HP.out h0 ha hd hp hq
          have q1 : a < k := by omega
          have q2 : d < k := by omega
          have h0' : decide (x.leaf < 0) = true := decide_eq_true (by omega)
          rw [ha] at c1
          rw [hd] at c2
          clear hbad hp hq ha hd h0
          rcases p with _ | _
          · have HN := hnot hr
            clear hr hnot hyes
            (go_wp2; go_roundw; (case rel => exact ⟨k + 1, by omega, by go_num, by rw [HN.out]; exact hown.alloc _, by (repeat' (first | exact Below.refl _ _ | assumption | refine Below.setCell ?_ (by first | omega | exact Below.size (by assumption) | (simp; done) | (simp; omega)) _ | refine Below.alloc ?_ (by first | omega | exact Below.size (by assumption) | (simp; done) | (simp; omega)) _ | refine Below.drew ?_ | refine below_drewN ?_ _))⟩); (case measure => simp [intOf]; omega))
          · rcases q with _ | _
            · have HN := hnot hr
              clear hr hnot hyes
              (go_wp2; go_roundw; (case rel => exact ⟨k + 1, by omega, by go_num, by rw [HN.out]; exact hown.alloc _, by (repeat' (first | exact Below.refl _ _ | assumption | refine Below.setCell ?_ (by first | omega | exact Below.size (by assumption) | (simp; done) | (simp; omega)) _ | refine Below.alloc ?_ (by first | omega | exact Below.size (by assumption) | (simp; done) | (simp; omega)) _ | refine Below.drew ?_ | refine below_drewN ?_ _))⟩); (case measure => simp [intOf]; omega))
            · have HN := hyes hr
              clear hr hnot hyes
              (go_wp2_with (at_builtin; refine wpList_append_own _ rfl (.tmp 39) (.tmp 41) 47 rfl w.heap.size 3 i0 (.int .i64 0) 1 8 Tryd.underlying47 hi hz0 hz1 hz2 rfl (by decide) _ _ _ rfl ((hown.alloc _).alloc _) ⟨_, 0, none⟩ 1 1 [.int .i64 k] rfl rfl ?c1 ?c2 ?c3 ?c4 ?c5 ?_; (case c1 => exact one_cell2); (case c2 => intro u hu; simp at hu; subst hu; rfl); (case c3 => unfold maxLen; omega); (case c4 => omega); (case c5 => have := hb.size; simp; omega); intro v' w3 hown3 hg3 _; obtain ⟨hp3, hz3⟩ := own_push (hown.alloc _) hg3 (by have := hb.size; simp; omega); have RB : Below w.heap.size w w3 := (hb.alloc hb.size _).trans hp3; clear hp3 hg3 hown); go_roundw; (case rel => exact ⟨k + 1, by omega, by go_num, by rw [HN.out]; simpa [intsV, intV] using hown3, RB⟩); (case measure => simp [intOf]; omega))
      · have HN := hnot (readyAt_done HP.out)
        clear hnot hyes hbad
        (go_wp2; go_roundw; (case rel => exact ⟨k + 1, by omega, by go_num, by rw [HN.out]; exact hown.alloc _, by (repeat' (first | exact Below.refl _ _ | assumption | refine Below.setCell ?_ (by first | omega | exact Below.size (by assumption) | (simp; done) | (simp; omega)) _ | refine Below.alloc ?_ (by first | omega | exact Below.size (by assumption) | (simp; done) | (simp; omega)) _ | refine Below.drew ?_ | refine below_drewN ?_ _))⟩); (case measure => simp [intOf]; omega))
    · obtain rfl : k = l.length := by omega
      go_wp2
      go_ret
      exact ⟨_, rfl, hown, hb⟩
end Go.Proofs.YtokiekachlmigaaDoor
