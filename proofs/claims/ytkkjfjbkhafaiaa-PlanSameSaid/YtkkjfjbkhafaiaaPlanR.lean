/- plan.Ready: what it computes. -/
import Derived.Test.YtkkjfjbkhafaiaaPlanC
import Derived.Test.YtkkjfjbkhafaiaaClip
namespace Go.Proofs.Ytkkjfjbkhafaiaa
open Go.RowKit

/-- Whether node i can be done. -/
def readyAt (l : List Nd) (done : List Bool) (i : Nat) : Bool :=
  match l[i]?, done[i]? with
  | some x, some false => decide (0 ≤ x.leaf) || ((done[x.left.toNat]? == some true) && (done[x.right.toNat]? == some true))
  | _, _ => false
/-- The nodes that can be done, of the first k. -/
def readyUpto (l : List Nd) (done : List Bool) : Nat → List Int
  | 0 => []
  | k + 1 => if readyAt l done k then readyUpto l done k ++ [(k : Int)] else readyUpto l done k
theorem readyUpto_len (l : List Nd) (done : List Bool) (k : Nat) : (readyUpto l done k).length ≤ k := by
  induction k with
  | zero => simp [readyUpto]
  | succ k ih =>
    rw [readyUpto]
    split
    · simp; omega
    · omega
noncomputable def readyRes (l : List Nd) (parts : Int) (done : List Bool) : List Int × Int :=
  if ckPlan l parts ≠ 0 then ([], ckPlan l parts) else if done.length ≠ l.length then ([], 4) else (readyUpto l done l.length, 0)
theorem readyRes_bad {l : List Nd} {parts : Int} {done : List Bool} (h : ckPlan l parts ≠ 0) : readyRes l parts done = ([], ckPlan l parts) := by unfold readyRes; rw [if_pos h]
theorem readyRes_len {l : List Nd} {parts : Int} {done : List Bool} (h : ckPlan l parts = 0) (h1 : done.length ≠ l.length) : readyRes l parts done = ([], 4) := by
  unfold readyRes; rw [if_neg (fun hn => hn h), if_pos h1]
theorem readyRes_ok {l : List Nd} {parts : Int} {done : List Bool} (h : ckPlan l parts = 0) (h1 : done.length = l.length) : readyRes l parts done = (readyUpto l done l.length, 0) := by
  unfold readyRes; rw [if_neg (fun hn => hn h), if_neg (fun hn => hn h1)]

theorem readyAt_done {l : List Nd} {done : List Bool} {i : Nat} (h : done[i]? = some true) : readyAt l done i = false := by
  unfold readyAt; rw [h]; rcases l[i]? with _ | x <;> rfl
theorem readyAt_leaf {l : List Nd} {done : List Bool} {i : Nat} {x : Nd} (hx : l[i]? = some x) (h : done[i]? = some false) (h0 : 0 ≤ x.leaf) : readyAt l done i = true := by
  unfold readyAt; rw [h, hx]; simp [h0]
theorem readyAt_node {l : List Nd} {done : List Bool} {i a d : Nat} {x : Nd} {p q : Bool} (hx : l[i]? = some x) (h : done[i]? = some false) (h0 : ¬ 0 ≤ x.leaf) (ha : x.left = a) (hd : x.right = d) (hp : done[a]? = some p) (hq : done[d]? = some q) :
    readyAt l done i = (p && q) := by
  unfold readyAt; rw [h, hx]; simp only [ha, hd, Int.toNat_natCast, hp, hq]; cases p <;> cases q <;> simp [h0]

def ReadyIs (w : World) (r : List Int × Int) (e : Ending) (w' : World) : Prop := ∃ v, e = .returned (.tuple #[v, .int .i64 r.2]) ∧ RowAt w' v 1 r.1.length (intsV r.1) ∧ Below w.heap.size w w'

theorem one_cell2 {w : World} {o : Obj} {u : Value} {t : TypeId} (j : Nat) (u' : Value) (h : [u][j]? = some u') : ((w.alloc o).alloc (.cells #[u] t)).cell? ((⟨w.heap.size + 1, 0, none⟩ : Addr).add j) = some u' := by
  have := one_cell (w := w.alloc o) (t := t) j u' h
  simpa using this

theorem bools_at {w : World} {B : Nat} {A : Option Addr} {l : List Bool} (h : Reads w B 1 A l.length (boolsV l)) {k : Nat} (hk : k < l.length) :
    ∃ b off p, A = some ⟨b, off, none⟩ ∧ b < B ∧ l[k]? = some p ∧ w.cell? ⟨b, off + k, none⟩ = some (.bool p) := by
  obtain ⟨b, off, u, e, hb, hu, hc⟩ := h.at_ hk
  rw [show (boolsV l)[k]? = some (.bool l[k]) by simp [boolsV, hk]] at hu
  cases hu
  exact ⟨b, off, l[k], e, hb, List.getElem?_eq_getElem hk, hc⟩

set_option maxHeartbeats 2000000 in
theorem ready_any (A A' : Option Addr) (c c' : Nat) (l : List Nd) (parts : Int) (done : List Bool) (w : World) (h : Reads w w.heap.size 3 A l.length (ndCells l)) (h' : Reads w w.heap.size 1 A' done.length (boolsV done))
    (hm : l.length ≤ 9223372036854775807) (hm' : done.length ≤ 9223372036854775807) :
    Calls Try.prog 35 #[.slice A l.length c, .int .i64 parts, .slice A' done.length c'] w (ReadyIs w (readyRes l parts done)) := by
  obtain ⟨i0, hi, hz0, hz1, hz2⟩ := info_parts Try.infoInt
  unfold ReadyIs
  go_enter Try.func35, Try.ntmps35
  go_wp2_with fail
  refine (planCheck_any A c l parts w h hm).mono ?_
  rintro e w1 ⟨rfl, hb⟩
  by_cases hck : ckPlan l parts = 0
  · have HK := Lib.hid hck
    rw [hck]
    clear hck
    by_cases hl : done.length = l.length
    · have HL := Lib.hid hl
      have l1 : done.length ≤ l.length := by omega
      have l2 : l.length ≤ done.length := by omega
      have hl' : ((done.length : Int) != (l.length : Int)) = false := by rw [hl]; simp
      have hZ := ckPlan_zero HK.out
      have h23 : l.length ≤ 23 := hZ.2.2.1
      have HF := Lib.hid hZ.2.2.2.2.1
      clear hl hZ
      go_wp2_with fail
      go_loopw [9, 25] (fun v i wr => ∃ k : Nat, k ≤ l.length ∧ i = .int .i64 k ∧ wr.ownsRow w.heap.size 3 1 v (readyUpto l done k).length (intsV (readyUpto l done k)) ∧ Below w.heap.size w wr) (fun _ i _ => l.length - (intOf i).toNat)
      case atStart => exact ⟨0, Nat.zero_le _, rfl, World.ownsRow_nil _ _ _ _, hb⟩
      case round =>
        clear hb
        obtain ⟨k, hk, rfl, hown, hb⟩ := hrel
        by_cases hlt : k < l.length
        · obtain ⟨x, hx⟩ : ∃ x, l[k]? = some x := ⟨_, List.getElem?_eq_getElem hlt⟩
          obtain ⟨b, off, rfl, hb1, c0, c1, c2⟩ := nd_cells (h.below hb) hx
          obtain ⟨b', off', p, rfl, hb1', hp, d0⟩ := bools_at (h'.below hb) (by omega : k < done.length)
          have hlt' : b' < wr.heap.size := by have := hb.size; omega
          have HP := Lib.hid hp
          have HX := Lib.hid hx
          have hbad := HF.out k x hx
          clear hp hx
          have hnot : readyAt l done k = false → Hid (readyUpto l done (k + 1) = readyUpto l done k) := fun hn => by
            show readyUpto l done (k + 1) = _
            rw [readyUpto, hn]; rfl
          have hyes : readyAt l done k = true → Hid (readyUpto l done (k + 1) = readyUpto l done k ++ [(k : Int)]) := fun hn => by
            show readyUpto l done (k + 1) = _
            rw [readyUpto, hn]; rfl
          rcases p with _ | _
          · have fin : ∀ (s : Bool), readyAt l done k = s → s = true → Hid (readyUpto l done (k + 1) = readyUpto l done k ++ [(k : Int)]) := fun s e1 e2 => hyes (e1.trans e2)
            have hlenk := readyUpto_len l done k
            by_cases h0 : 0 ≤ x.leaf
            · have HN := hyes (readyAt_leaf HX.out HP.out h0)
              clear hnot hyes hbad fin
              (go_wp2_with (at_builtin; refine wpList_append_own _ rfl (.tmp 54) (.tmp 56) 45 rfl w.heap.size 3 i0 (.int .i64 0) 1 8 Try.underlying45 hi hz0 hz1 hz2 rfl (by decide) _ _ _ rfl ((hown.alloc _).alloc _) ⟨_, 0, none⟩ 1 1 [.int .i64 k] rfl rfl ?c1 ?c2 ?c3 ?c4 ?c5 ?_); (case c1 => exact one_cell2); (case c2 => intro u hu; simp at hu; subst hu; rfl); (case c3 => unfold maxLen; omega); (case c4 => omega); (case c5 => have := hb.size; simp; omega); intro v' w3 hown3 hg3 _; obtain ⟨hp3, hz3⟩ := own_push (hown.alloc _) hg3 (by have := hb.size; simp; omega); have RB : Below w.heap.size w w3 := (hb.alloc hb.size _).trans hp3; clear hp3 hg3 hown; go_wp2; go_roundw; (case rel => exact ⟨k + 1, by omega, by go_num, by rw [HN.out]; simpa [intsV, intV] using hown3, RB⟩); (case measure => simp [intOf]; omega))
            · unfold Nd.bad at hbad
              rw [if_neg h0] at hbad
              obtain ⟨a, ha⟩ : ∃ a : Nat, x.left = a := ⟨x.left.toNat, by omega⟩
              obtain ⟨d, hd⟩ : ∃ d : Nat, x.right = d := ⟨x.right.toNat, by omega⟩
              obtain ⟨b2, off2, p, he, _, hp, d1⟩ := bools_at (h'.below hb) (by omega : a < done.length)
              cases he
              obtain ⟨b2, off2, q, he, _, hq, d2⟩ := bools_at (h'.below hb) (by omega : d < done.length)
              cases he
              have hr := readyAt_node HX.out HP.out h0 ha hd hp hq
              have q1 : a < k := by omega
              have q2 : d < k := by omega
              have h0' : decide (0 ≤ x.leaf) = false := by simpa using h0
              rw [ha] at c1
              rw [hd] at c2
              clear hbad hp hq ha hd h0
              rcases p with _ | _
              · have HN := hnot hr
                clear hr hnot hyes fin
                (go_wp2; go_roundw; (case rel => exact ⟨k + 1, by omega, by go_num, by rw [HN.out]; exact hown.alloc _, by (repeat' (first | exact Below.refl _ _ | assumption | refine Below.setCell ?_ (by first | omega | exact Below.size (by assumption) | (simp; done) | (simp; omega)) _ | refine Below.alloc ?_ (by first | omega | exact Below.size (by assumption) | (simp; done) | (simp; omega)) _ | refine Below.drew ?_ | refine below_drewN ?_ _))⟩); (case measure => simp [intOf]; omega))
              · rcases q with _ | _
                · have HN := hnot hr
                  clear hr hnot hyes fin
                  (go_wp2; go_roundw; (case rel => exact ⟨k + 1, by omega, by go_num, by rw [HN.out]; exact hown.alloc _, by (repeat' (first | exact Below.refl _ _ | assumption | refine Below.setCell ?_ (by first | omega | exact Below.size (by assumption) | (simp; done) | (simp; omega)) _ | refine Below.alloc ?_ (by first | omega | exact Below.size (by assumption) | (simp; done) | (simp; omega)) _ | refine Below.drew ?_ | refine below_drewN ?_ _))⟩); (case measure => simp [intOf]; omega))
                · have HN := hyes hr
                  clear hr hnot hyes fin
                  (go_wp2_with (at_builtin; refine wpList_append_own _ rfl (.tmp 54) (.tmp 56) 45 rfl w.heap.size 3 i0 (.int .i64 0) 1 8 Try.underlying45 hi hz0 hz1 hz2 rfl (by decide) _ _ _ rfl ((hown.alloc _).alloc _) ⟨_, 0, none⟩ 1 1 [.int .i64 k] rfl rfl ?c1 ?c2 ?c3 ?c4 ?c5 ?_); (case c1 => exact one_cell2); (case c2 => intro u hu; simp at hu; subst hu; rfl); (case c3 => unfold maxLen; omega); (case c4 => omega); (case c5 => have := hb.size; simp; omega); intro v' w3 hown3 hg3 _; obtain ⟨hp3, hz3⟩ := own_push (hown.alloc _) hg3 (by have := hb.size; simp; omega); have RB : Below w.heap.size w w3 := (hb.alloc hb.size _).trans hp3; clear hp3 hg3 hown; go_wp2; go_roundw; (case rel => exact ⟨k + 1, by omega, by go_num, by rw [HN.out]; simpa [intsV, intV] using hown3, RB⟩); (case measure => simp [intOf]; omega))
          · have HN := hnot (readyAt_done HP.out)
            clear hnot hyes hbad
            go_wp2
            go_roundw
            case rel => exact ⟨k + 1, by omega, by go_num, by rw [HN.out]; exact hown.alloc _, by (repeat' (first | exact Below.refl _ _ | assumption | refine Below.setCell ?_ (by first | omega | exact Below.size (by assumption) | (simp; done) | (simp; omega)) _ | refine Below.alloc ?_ (by first | omega | exact Below.size (by assumption) | (simp; done) | (simp; omega)) _ | refine Below.drew ?_ | refine below_drewN ?_ _))⟩
            case measure => simp [intOf]; omega
        · obtain rfl : k = l.length := by omega
          have HR := Lib.hid (readyRes_ok HK.out HL.out)
          obtain ⟨A1, c1, rfl, hc1, hr1⟩ := RowAt.of_own hown
          go_wp2_with fail
          refine (clip_any A1 _ c1 _ wr hr1 hc1).mono ?_
          rintro e w2 ⟨rfl, rfl⟩
          go_wp2
          go_ret2
          rw [HR.out]
          exact ⟨_, rfl, ⟨_, _, rfl, Nat.le_refl _, hr1⟩, hb⟩
    · have hl' : ((done.length : Int) != (l.length : Int)) = true := by simp; omega
      have HR := Lib.hid (readyRes_len HK.out hl)
      clear hl
      go_wp2
      go_ret2
      rw [HR.out]
      exact ⟨_, rfl, RowAt.nil _ _, hb⟩
  · have hck' : (ckPlan l parts != 0) = true := by simpa using hck
    have HR := Lib.hid (readyRes_bad (done := done) hck)
    clear hck
    go_wp2
    go_ret2
    rw [HR.out]
    exact ⟨_, rfl, RowAt.nil _ _, hb⟩
end Go.Proofs.Ytkkjfjbkhafaiaa
