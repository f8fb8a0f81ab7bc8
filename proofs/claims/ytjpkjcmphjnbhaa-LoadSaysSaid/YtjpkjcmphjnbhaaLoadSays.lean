/- ropewalklaw.LoadSays returns true, whatever the image, the address, the number. -/
import Derived.Test.YtjpkjcmphjnbhaaLoadSaysA
import Derived.Deep.DeepCutAuto
namespace Go.Proofs.Ytjpkjcmphjnbhaa
open Go.RowKit

set_option maxRecDepth 100000 in
set_option maxHeartbeats 1000000 in
theorem loadSays_in (entry a n : Int) (A : Option Addr) (c : Nat) (segs : List Seg) (w : World) (h : SegsAt w w.heap.size A segs) (ha0 : -9223372036854775808 ≤ a) (ha1 : a ≤ 9223372036854775807) (hck : ckImg entry segs = 0) (hoff : ¬ (a < 0 ∨ n < 0 ∨ a > 65536 ∨ n > 64)) :
    Calls Try.prog 4 #[.agg #[.int .i64 entry, .slice A segs.length c], .int .i64 a, .int .i64 n] w fun e w' => e = .returned (.bool true) ∧ Below w.heap.size w w' := by
  have hb0 : Below w.heap.size w (w.alloc (Obj.cells #[Value.int IntKind.i64 entry, Value.slice A segs.length c] 29)) := (Below.refl _ _).alloc (Nat.le_refl _) _
  have hB0 : Blk (w.alloc (Obj.cells #[Value.int IntKind.i64 entry, Value.slice A segs.length c] 29)) w.heap.size 29 #[Value.int IntKind.i64 entry, Value.slice A segs.length c] := Blk.new _ _ _
  obtain ⟨i0, hi, hz0, hz1, hz2⟩ := info_parts Try.infoByte
  have c0 := trivial
  have c1 := trivial
  have hck' : (ckImg entry segs != 0) = false := by rw [hck]; rfl
  obtain ⟨N, rfl⟩ : ∃ N : Nat, n = N := ⟨n.toNat, by omega⟩
  have HX := Lib.hid hoff
  have g0 : 0 ≤ a := by omega
  have g1 : a ≤ 65536 := by omega
  have g2 : N ≤ 64 := by omega
  have g3 : decide (a < 0) = false := by simp; omega
  have g4 : decide (65536 < a) = false := by simp; omega
  have g5 : decide ((64 : Int) < (N : Int)) = false := by simp; omega
  clear hoff
  have HK := Lib.hid hck
  have HFine := Lib.hid (ckImg_fine hck).1
  clear hck
  obtain ⟨r, hr⟩ : ∃ r, r = rangeRes entry segs a N := ⟨_, rfl⟩
  have HR := Lib.hid hr
  obtain ⟨o, ho⟩ : ∃ o, lookAt segs a 0 = o := ⟨_, rfl⟩
  have HO := Lib.hid ho
  go_enter Try.func4, Try.ntmps4
  (go_wp2_with fail; refine (byte_good (h.below hb0) ha0 ha1 HK.out).mono ?_; rintro e w1 ⟨rfl, hb1⟩; have hB1 := hB0.all hb1; have hb1 := hb0.trans (hb1.mono hb0.size); clear hB0 hb0 c0 c1; have c0 := hB1.cell 0; have c1 := hB1.cell 1)
  rw [ho]
  go_wp2_with fail
  refine (range_any entry a N A c segs w1 (h.below hb1) ha0 ha1).mono ?_
  rintro e w2 ⟨v, rfl, ⟨A1, cc1, rfl, hv⟩, hb2⟩
  rw [← hr] at hv ⊢
  clear hr
  have hB2 := hB1.all hb2
  have hv2 := hv
  clear hv
  have hb2 := hb1.trans (hb2.mono hb1.size)
  clear hB1 hb1 c0 c1
  have c0 := hB2.cell 0
  have c1 := hB2.cell 1
  (go_wp2_with fail; refine (checkImage_any entry A c segs w2 (h.below hb2)).mono ?_; rintro e w3 ⟨rfl, hb3⟩; have hv3 := (hv2.below hb3).more hb3.size; have hB3 := hB2.all hb3; have hb3 := hb2.trans (hb3.mono hb2.size); clear hB2 hb2 hv2 c0 c1; have c0 := hB3.cell 0; have c1 := hB3.cell 1)
  (go_wp2_with fail; refine (loaded_any w3).mono ?_; rintro e w4 ⟨rfl, hb4⟩; have hv4 := (hv3.below hb4).more hb4.size; have hB4 := hB3.all hb4; have hb4 := hb3.trans (hb4.mono hb3.size); clear hB3 hb3 hv3 c0 c1; have c0 := hB4.cell 0; have c1 := hB4.cell 1)
  (go_wp2_with fail; refine (check_any entry A c segs w4 (h.below hb4)).mono ?_; rintro e w5 ⟨rfl, hb5⟩; have hv5 := (hv4.below hb5).more hb5.size; have hB5 := hB4.all hb5; have hb5 := hb4.trans (hb5.mono hb4.size); clear hB4 hb4 hv4 c0 c1; have c0 := hB5.cell 0; have c1 := hB5.cell 1)
  (go_wp2_with fail; refine (byteAt_any entry a A c segs w5 (h.below hb5) HFine.out ha0 ha1).mono ?_; rintro e w6 ⟨rfl, hb6⟩; have hv6 := (hv5.below hb6).more hb6.size; have hB6 := hB5.all hb6; have hb6 := hb5.trans (hb6.mono hb5.size); clear hB5 hb5 hv5 c0 c1; have c0 := hB6.cell 0; have c1 := hB6.cell 1)
  rw [ho]
  clear ho
  obtain ⟨x0, hx0⟩ : ∃ x, byteOf a o = x := ⟨_, rfl⟩
  obtain ⟨x1, hx1⟩ : ∃ x, idxOf o = x := ⟨_, rfl⟩
  obtain ⟨x2, hx2⟩ : ∃ x, o.isSome = x := ⟨_, rfl⟩
  obtain ⟨x3, hx3⟩ : ∃ x, wrOf o = x := ⟨_, rfl⟩
  obtain ⟨x4, hx4⟩ : ∃ x, wkOf o = x := ⟨_, rfl⟩
  simp only [atVal, hx0, hx1, hx2, hx3, hx4]
  have HX0 := Lib.hid hx0
  have HX1 := Lib.hid hx1
  have HX2 := Lib.hid hx2
  have HX3 := Lib.hid hx3
  have HX4 := Lib.hid hx4
  clear hx0 hx1 hx2 hx3 hx4
  go_upto_region 9 with (fail)
  go_cut [124] (fun c wx => c = .bool false ∧ wx = w6)
  case first =>
    obtain rfl := HX0.out
    obtain rfl := HX1.out
    obtain rfl := HX2.out
    obtain rfl := HX3.out
    obtain rfl := HX4.out
    rcases o with _ | ⟨j, s⟩
    · simp only [byteOf, idxOf, wrOf, wkOf, Option.isSome]
      go_wp2_with fail
      go_meet
      exact ⟨rfl, rfl⟩
    · simp only [byteOf, idxOf, wrOf, wkOf, Option.isSome]
      obtain ⟨_, hidx⟩ := lookAt_idx segs a 0 j s HO.out
      rw [Nat.sub_zero] at hidx
      have hjl : j < segs.length := (List.getElem?_eq_some_iff.1 hidx).1
      have hseg : segs[j] = s := (List.getElem?_eq_some_iff.1 hidx).2
      obtain ⟨b, off, rfl, hab, hcs⟩ := (h.row.below hb6).2 (by omega)
      have hc : ∀ i u, i < 5 → s.cells[i]? = some u → w6.cell? ⟨b, off + j * 5 + i, none⟩ = some u := fun i u hi hu => by rw [Nat.add_assoc]; exact hcs _ u (by rw [flatMap5_get _ _ _ hi hjl, hseg]; exact hu)
      have h3 := hc 3 _ (by omega) rfl
      have h4 := hc 4 _ (by omega) rfl
      have hsm := h.small
      clear hc hcs hseg hidx
      go_wp2_with fail
      go_meet
      exact ⟨rfl, rfl⟩
  case rest =>
    obtain ⟨rfl, rfl⟩ := hcut
    go_wp2_with fail
    go_loopw [17, 147] (fun v i wr => ∃ (k : Nat) (l : List UInt8), k ≤ N ∧ i = .int .i64 k ∧ Hid (rangeB segs a k = some l) ∧ wr.ownsRow wc.heap.size 5 1 v l.length (bytesV l) ∧ Below wc.heap.size wc wr) (fun _ i _ => N - (intOf i).toNat)
    case atStart => exact ⟨0, [], Nat.zero_le _, rfl, rfl, World.ownsRow_nil _ _ _ _, Below.refl _ _⟩
    case round =>
      obtain ⟨k, l, hk, rfl, hl, hown, hbr⟩ := hrel
      have hBr := hB6.all hbr
      have d0 := hBr.cell 0
      have d1 := hBr.cell 1
      have hbw := hb6.trans (hbr.mono hb6.size)
      have hzr := hBr.lt
      clear c0 c1
      by_cases hlt : k < N
      · rcases hlk : lookAt segs (a + k) 0 with _ | ⟨j', s'⟩
        · obtain rfl : r = ([], 5) := HR.out.trans (rangeRes_none HK.out HX.out (rangeB_more (rangeB_none hlk) (by omega : k + 1 ≤ ((N : Int)).toNat)))
          have HL := Lib.hid hlk
          clear hlk
          go_wp2_with fail
          refine (byteAt_any entry (a + k) _ c segs wr (h.below hbw) HFine.out (by omega) (by omega)).mono ?_
          rintro e w7 ⟨rfl, hb7⟩
          rw [HL.out]
          simp only [atVal, byteOf, idxOf]
          go_wp2
          go_ret
          exact ⟨rfl, hbw.trans (hb7.mono hbw.size)⟩
        · have HL := Lib.hid hlk
          have hll := Lib.hid (rangeB_len hl.out)
          clear hlk
          go_wp2_with fail
          refine (byteAt_any entry (a + k) _ c segs wr (h.below hbw) HFine.out (by omega) (by omega)).mono ?_
          rintro e w7 ⟨rfl, hb7⟩
          rw [HL.out]
          simp only [atVal, byteOf, idxOf]
          have hown7 := own_below hown hb7
          have hz7 : w.heap.size < w7.heap.size := by have := hb7.size; omega
          have hb67 := hbr.trans (hb7.mono hbr.size)
          clear hb7 d0 d1 hbr hown hBr
          go_wp2_with (at_builtin; refine wpList_append_own _ rfl (.tmp 167) (.tmp 169) 32 rfl wc.heap.size 5 i0 (.int .u8 0) 1 1 Try.underlying32 hi hz0 hz1 hz2 rfl (by decide) _ _ _ rfl (hown7.alloc _) ⟨w7.heap.size, 0, none⟩ 1 1 [.int .u8 ((s'.byte (a + k)).toNat : Int)] rfl rfl ?c1 ?c2 ?c3 ?c4 ?c5 ?_)
          case c1 => exact one_cell
          case c2 => intro u hu; simp at hu; subst hu; rfl
          case c3 => have := hll.out; unfold maxLen; omega
          case c4 => have := hll.out; omega
          case c5 => have := hb67.size; simp; omega
          · intro v' w8 hown8 hg8 _
            obtain ⟨hp8, hz8⟩ := own_push hown7 hg8 hb67.size
            have RB : Below wc.heap.size wc w8 := hb67.trans hp8
            clear hp8 hg8 hown7
            go_wp2
            go_roundw
            case rel => exact ⟨k + 1, l ++ [s'.byte (a + k)], by omega, by go_num, rangeB_step hl.out HL.out, by simpa [bytesV, byteV] using hown8, RB⟩
            case measure => simp [intOf]; omega
      · obtain rfl : k = N := by omega
        obtain rfl : r = (l, 0) := HR.out.trans (rangeRes_some (n := (k : Int)) HK.out HX.out (by simpa using hl.out))
        have hv7 := (hv6.below hbr).more hbr.size
        obtain ⟨Aw, cw, rfl, hw⟩ := BytesAt.of_own hown
        go_wp2_with fail
        refine (bytesEqual_any A1 Aw cc1 cw l l wr hv7 hw).mono ?_
        rintro e w9 ⟨rfl, rfl⟩
        go_wp2
        go_ret
        exact ⟨ret_val (by simp), hbw⟩
end Go.Proofs.Ytjpkjcmphjnbhaa
