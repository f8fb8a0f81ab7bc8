/- load.Range: what it computes. -/
import Derived.Test.YtbhjdinjoonngaaLoadC
import Derived.OwnWalk
set_option linter.all false
namespace Go.Proofs.Ytbhjdinjoonngaa
open Go.RowKit

theorem byte_hit {entry a : Int} {A : Option Addr} {c : Nat} {segs : List Seg} {w : World} (h : SegsAt w w.heap.size A segs) (ha0 : -9223372036854775808 ≤ a) (ha1 : a ≤ 9223372036854775807) {k : Nat} {s : Seg} (hk : ckImg entry segs = 0) (hl : lookAt segs a 0 = some (k, s)) :
    Calls Try.prog 46 #[.agg #[.int .i64 entry, .slice A segs.length c], .int .i64 a] w fun e w' => e = .returned (.tuple #[.int .u8 ((s.byte a).toNat : Int), .bool true, .bool s.Writes, .bool s.Works, .int .i64 0]) ∧ Below w.heap.size w w' := by
  have := byte_any entry a A c segs w h ha0 ha1
  rw [byteRes_hit hk hl] at this
  exact this
theorem byte_none {entry a : Int} {A : Option Addr} {c : Nat} {segs : List Seg} {w : World} (h : SegsAt w w.heap.size A segs) (ha0 : -9223372036854775808 ≤ a) (ha1 : a ≤ 9223372036854775807) (hk : ckImg entry segs = 0) (hl : lookAt segs a 0 = none) :
    Calls Try.prog 46 #[.agg #[.int .i64 entry, .slice A segs.length c], .int .i64 a] w fun e w' => e = .returned (.tuple #[.int .u8 0, .bool false, .bool false, .bool false, .int .i64 0]) ∧ Below w.heap.size w w' := by
  have := byte_any entry a A c segs w h ha0 ha1
  rw [byteRes_none hk hl] at this
  exact this
theorem byte_bad {entry a : Int} {A : Option Addr} {c : Nat} {segs : List Seg} {w : World} (h : SegsAt w w.heap.size A segs) (ha0 : -9223372036854775808 ≤ a) (ha1 : a ≤ 9223372036854775807) (hk : ckImg entry segs ≠ 0) :
    Calls Try.prog 46 #[.agg #[.int .i64 entry, .slice A segs.length c], .int .i64 a] w fun e w' => e = .returned (.tuple #[.int .u8 0, .bool false, .bool false, .bool false, .int .i64 (ckImg entry segs)]) ∧ Below w.heap.size w w' := by
  have := byte_any entry a A c segs w h ha0 ha1
  rw [byteRes_bad hk] at this
  exact this
theorem byte_good {entry a : Int} {A : Option Addr} {c : Nat} {segs : List Seg} {w : World} (h : SegsAt w w.heap.size A segs) (ha0 : -9223372036854775808 ≤ a) (ha1 : a ≤ 9223372036854775807) (hk : ckImg entry segs = 0) :
    Calls Try.prog 46 #[.agg #[.int .i64 entry, .slice A segs.length c], .int .i64 a] w fun e w' => e = .returned (.tuple #[.int .u8 ((byteOf a (lookAt segs a 0)).toNat : Int), .bool (lookAt segs a 0).isSome, .bool (wrOf (lookAt segs a 0)), .bool (wkOf (lookAt segs a 0)), .int .i64 0]) ∧ Below w.heap.size w w' := by
  have := byte_any entry a A c segs w h ha0 ha1
  rw [byteRes_good hk] at this
  exact this

def RangeIs (w : World) (r : List UInt8 × Int) (e : Ending) (w' : World) : Prop := ∃ v, e = .returned (.tuple #[v, .int .i64 r.2]) ∧ BytesAt w' v r.1 ∧ Below w.heap.size w w'


set_option maxRecDepth 100000 in
set_option maxHeartbeats 4000000 in
theorem range_any (entry a n : Int) (A : Option Addr) (c : Nat) (segs : List Seg) (w : World) (h : SegsAt w w.heap.size A segs) (ha0 : -9223372036854775808 ≤ a) (ha1 : a ≤ 9223372036854775807) :
    Calls Try.prog 57 #[.agg #[.int .i64 entry, .slice A segs.length c], .int .i64 a, .int .i64 n] w (RangeIs w (rangeRes entry segs a n)) := by
  have hb0 : Below w.heap.size w (w.alloc (Obj.cells #[Value.int IntKind.i64 entry, Value.slice A segs.length c] 87)) := (Below.refl _ _).alloc (Nat.le_refl _) _
  obtain ⟨i0, hi, hz0, hz1, hz2⟩ := info_parts Try.infoByte
  go_enter Try.func57, Try.ntmps57
  go_wp2_with fail
  refine (loadCheck_any entry A c segs _ (h.below hb0)).mono ?_
  rintro e w1 ⟨rfl, hb1⟩
  have hc0 : w1.cell? ⟨w.heap.size, 0, none⟩ = some (.int .i64 entry) := by
    rw [hb1.cell (by simp)]; simp
  have hc1 : w1.cell? ⟨w.heap.size, 1, none⟩ = some (.slice A segs.length c) := by
    rw [hb1.cell (by simp)]; simp
  have hb : Below w.heap.size w w1 := hb0.trans (hb1.mono (by simp))
  have hz : w.heap.size < w1.heap.size := by have := hb1.size; simp at this; omega
  clear hb1 hb0
  by_cases hck : ckImg entry segs = 0
  · have hck' : (ckImg entry segs != 0) = false := by rw [hck]; rfl
    have HK := Lib.hid hck
    clear hck
    by_cases hoff : a < 0 ∨ n < 0 ∨ a > 65536 ∨ n > 64
    · have HF := Lib.hid (rangeRes_off HK.out hoff)
      have HO := Lib.hid hoff
      clear hoff
      go_wp2
      all_goals first
        | (go_ret2; rw [HF.out]; exact ⟨_, rfl, BytesAt.nil _, by (repeat' (first | exact Below.refl _ _ | assumption | refine Below.setCell ?_ (by first | omega | exact Below.size (by assumption) | (simp; done) | (simp; omega)) _ | refine Below.alloc ?_ (by first | omega | exact Below.size (by assumption) | (simp; done) | (simp; omega)) _ | refine Below.drew ?_ | refine below_drewN ?_ _))⟩)
        | (exfalso; have := HO.out; omega)
    · obtain ⟨N, rfl⟩ : ∃ N : Nat, n = N := ⟨n.toNat, by omega⟩
      have HO := Lib.hid hoff
      have g0 : 0 ≤ a := by omega
      have g1 : a ≤ 65536 := by omega
      have g2 : N ≤ 64 := by omega
      have g3 : decide (a < 0) = false := by simp; omega
      have g4 : decide (65536 < a) = false := by simp; omega
      have g5 : decide ((64 : Int) < (N : Int)) = false := by simp; omega
      clear hoff
      go_wp2_with fail
      go_loopw [9, 36] (fun v i wr => ∃ (k : Nat) (l : List UInt8), k ≤ N ∧ i = .int .i64 k ∧ Hid (rangeB segs a k = some l) ∧ wr.ownsRow (w.heap.size + 1) 5 1 v l.length (bytesV l) ∧ Below w.heap.size w wr ∧ w.heap.size < wr.heap.size ∧ wr.cell? ⟨w.heap.size, 0, none⟩ = some (.int .i64 entry) ∧ wr.cell? ⟨w.heap.size, 1, none⟩ = some (.slice A segs.length c)) (fun _ i _ => N - (intOf i).toNat)
      case atStart => exact ⟨0, [], Nat.zero_le _, rfl, rfl, World.ownsRow_nil _ _ _ _, hb, hz, hc0, hc1⟩
      case round =>
        obtain ⟨k, l, hk, rfl, hl, hown, hbr, hzr, hr0, hr1⟩ := hrel
        clear hc0 hc1 hb hz
        by_cases hlt : k < N
        · rcases hlk : lookAt segs (a + k) 0 with _ | ⟨j, s⟩
          · have HF := Lib.hid (rangeRes_none HK.out HO.out (rangeB_more (rangeB_none hlk) (by omega : k + 1 ≤ ((N : Int)).toNat)))
            have HL := Lib.hid hlk
            clear hlk
            go_wp2_with fail
            refine (byte_none (h.below hbr) (by omega) (by omega) HK.out HL.out).mono ?_
            rintro e w2 ⟨rfl, hb2⟩
            go_wp2
            go_ret2
            rw [HF.out]
            exact ⟨_, rfl, BytesAt.nil _, hbr.trans (hb2.mono (by omega))⟩
          · have HL := Lib.hid hlk
            have hll := Lib.hid (rangeB_len hl.out)
            clear hlk
            go_wp2_with fail
            refine (byte_hit (h.below hbr) (by omega) (by omega) HK.out HL.out).mono ?_
            rintro e w2 ⟨rfl, hb2⟩
            have hown2 := own_below hown hb2
            have hbw : Below w.heap.size w w2 := hbr.trans (hb2.mono (by omega))
            have hzw : w.heap.size < w2.heap.size := by have := hb2.size; omega
            have hw0 : w2.cell? ⟨w.heap.size, 0, none⟩ = some (.int .i64 entry) := (hb2.cell (by simpa using hzr)).trans hr0
            have hw1 : w2.cell? ⟨w.heap.size, 1, none⟩ = some (.slice A segs.length c) := (hb2.cell (by simpa using hzr)).trans hr1
            clear hb2 hr0 hr1 hbr hown
            go_wp2_with (at_builtin; refine wpList_append_own _ rfl (.tmp 52) (.tmp 54) 97 rfl (w.heap.size + 1) 5 i0 (.int .u8 0) 1 1 Try.underlying97 hi hz0 hz1 hz2 rfl (by decide) _ _ _ rfl (hown2.alloc _) ⟨w2.heap.size, 0, none⟩ 1 1 [.int .u8 ((s.byte (a + k)).toNat : Int)] rfl rfl ?c1 ?c2 ?c3 ?c4 ?c5 ?_)
            case c1 => exact one_cell
            case c2 => intro u hu; simp at hu; subst hu; rfl
            case c3 => have := hll.out; unfold maxLen; omega
            case c4 => have := hll.out; omega
            case c5 => simp; omega
            · intro v' w3 hown3 hg3 _
              obtain ⟨hp3, hz3⟩ := own_push hown2 hg3 (by omega)
              have R0 := (hp3.cell (p := ⟨w.heap.size, 0, none⟩) (by simp)).trans hw0
              have R1 := (hp3.cell (p := ⟨w.heap.size, 1, none⟩) (by simp)).trans hw1
              have RB : Below w.heap.size w w3 := hbw.trans (hp3.mono (by omega))
              clear hp3 hg3 hw0 hw1 hbw hown2
              go_wp2
              go_roundw
              case rel => exact ⟨k + 1, l ++ [s.byte (a + k)], by omega, by go_num, rangeB_step hl.out HL.out, by simpa [bytesV, byteV] using hown3, RB, by omega, R0, R1⟩
              case measure => simp [intOf]; omega
        · obtain rfl : k = N := by omega
          have HF := Lib.hid (rangeRes_some (n := (k : Int)) HK.out HO.out (by simpa using hl.out))
          go_wp2
          go_ret2
          rw [HF.out]
          exact ⟨_, rfl, BytesAt.of_own hown, hbr⟩
  · have hck' : (ckImg entry segs != 0) = true := by simpa using hck
    have HF := Lib.hid (rangeRes_bad (a := a) (n := n) hck)
    clear hck
    go_wp2
    go_ret2
    rw [HF.out]
    exact ⟨_, rfl, BytesAt.nil _, by (repeat' (first | exact Below.refl _ _ | assumption | refine Below.setCell ?_ (by first | omega | exact Below.size (by assumption) | (simp; done) | (simp; omega)) _ | refine Below.alloc ?_ (by first | omega | exact Below.size (by assumption) | (simp; done) | (simp; omega)) _ | refine Below.drew ?_ | refine below_drewN ?_ _))⟩
end Go.Proofs.Ytbhjdinjoonngaa
