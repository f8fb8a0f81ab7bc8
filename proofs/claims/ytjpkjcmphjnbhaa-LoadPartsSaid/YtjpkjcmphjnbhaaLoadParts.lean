/- ropewalklaw.LoadParts returns true, whatever the image, the address, the numbers. -/
import Derived.Test.YtjpkjcmphjnbhaaLoaded
import Derived.Test.YtjpkjcmphjnbhaaSl
import Derived.Test.YtjpkjcmphjnbhaaAt
import Derived.Deep.DeepCutAuto
namespace Go.Proofs.Ytjpkjcmphjnbhaa
open Go.RowKit

set_option maxRecDepth 100000 in
set_option maxHeartbeats 1000000 in
theorem loadParts_err (entry a n k : Int) (A : Option Addr) (c : Nat) (segs : List Seg) (w : World) (h : SegsAt w w.heap.size A segs) (ha0 : -9223372036854775808 ≤ a) (ha1 : a ≤ 9223372036854775807) (hr : (rangeRes entry segs a n).2 ≠ 0) :
    Calls Try.prog 5 #[.agg #[.int .i64 entry, .slice A segs.length c], .int .i64 a, .int .i64 n, .int .i64 k] w fun e w' => e = .returned (.bool true) ∧ Below w.heap.size w w' := by
  have hb0 : Below w.heap.size w (w.alloc (Obj.cells #[Value.int IntKind.i64 entry, Value.slice A segs.length c] 29)) := (Below.refl _ _).alloc (Nat.le_refl _) _
  have hne : ((rangeRes entry segs a n).2 != 0) = true := by simpa using hr
  clear hr
  go_enter Try.func5, Try.ntmps5
  go_wp2_with fail
  refine (range_any entry a n A c segs _ (h.below hb0) ha0 ha1).mono ?_
  rintro e w2 ⟨v, rfl, ⟨A1, cc1, rfl, hv⟩, hb2⟩
  go_wp2_with fail
  refine (loaded_any w2).mono ?_
  rintro e w3 ⟨rfl, hb3⟩
  go_wp2_with fail
  refine (loaded_any w3).mono ?_
  rintro e w4 ⟨rfl, hb4⟩
  go_wp2
  go_ret
  have h2 := hb0.trans (hb2.mono (by simp))
  have h3 := h2.trans (hb3.mono h2.size)
  exact ⟨rfl, h3.trans (hb4.mono h3.size)⟩

set_option maxRecDepth 100000 in
set_option maxHeartbeats 1000000 in
theorem loadParts_ok (entry a k : Int) (N : Nat) (A : Option Addr) (c : Nat) (segs : List Seg) (w : World) (h : SegsAt w w.heap.size A segs) (hk0 : -9223372036854775808 ≤ k) (hk1 : k ≤ 9223372036854775807)
    (hck : ckImg entry segs = 0) (g0 : 0 ≤ a) (g1 : a ≤ 65536) (g2 : N ≤ 64) (l : List UInt8) (hl : rangeB segs a N = some l) :
    Calls Try.prog 5 #[.agg #[.int .i64 entry, .slice A segs.length c], .int .i64 a, .int .i64 N, .int .i64 k] w fun e w' => e = .returned (.bool true) ∧ Below w.heap.size w w' := by
  have hb0 : Below w.heap.size w (w.alloc (Obj.cells #[Value.int IntKind.i64 entry, Value.slice A segs.length c] 29)) := (Below.refl _ _).alloc (Nat.le_refl _) _
  have hB0 : Blk (w.alloc (Obj.cells #[Value.int IntKind.i64 entry, Value.slice A segs.length c] 29)) w.heap.size 29 #[Value.int IntKind.i64 entry, Value.slice A segs.length c] := Blk.new _ _ _
  have hlen := rangeB_len hl
  obtain rfl : N = l.length := hlen.symm
  clear hlen
  have HL := Lib.hid hl
  have HK := Lib.hid hck
  have HR1 := Lib.hid (rangeRes_some (entry := entry) (a := a) (n := (l.length : Int)) hck (by omega) (by simpa using hl))
  obtain ⟨K, hK⟩ : ∃ K : Nat, k % ((l.length : Int) + 1) = K := ⟨(k % ((l.length : Int) + 1)).toNat, by have := Int.emod_nonneg k (show (l.length : Int) + 1 ≠ 0 by omega); omega⟩
  have hKl : K ≤ l.length := by have := Int.emod_lt_of_pos k (show 0 < (l.length : Int) + 1 by omega); omega
  have HKK := Lib.hid hK
  obtain ⟨X, hX⟩ : ∃ X, l.take K = X := ⟨_, rfl⟩
  obtain ⟨Y, hY⟩ : ∃ Y, l.drop K = Y := ⟨_, rfl⟩
  have HXY := Lib.hid (show X ++ Y = l by rw [← hX, ← hY]; exact List.take_append_drop K l)
  have hxl := rangeB_take hl hKl
  have hyl := rangeB_drop hl hKl
  rw [hX] at hxl
  rw [hY] at hyl
  have HR2 := Lib.hid (rangeRes_some (entry := entry) (a := a) (n := (K : Int)) hck (by omega) (by simpa using hxl))
  have HY := Lib.hid hyl
  clear hl hck hK hX hY hxl hyl
  go_enter Try.func5, Try.ntmps5
  go_wp2_with fail
  refine (range_any entry a l.length A c segs _ (h.below hb0) (by omega) (by omega)).mono ?_
  rintro e w1 ⟨v, rfl, ⟨A1, cc1, rfl, hv1⟩, hb1⟩
  rw [HR1.out] at hv1 ⊢
  have hB1 := hB0.all hb1
  have hb1 := hb0.trans (hb1.mono (by simp))
  clear hB0 hb0
  go_wp2_with fail
  refine (loaded_any w1).mono ?_
  rintro e w2 ⟨rfl, hb2⟩
  have hv2 := (hv1.below hb2).more hb2.size
  have hB2 := hB1.all hb2
  have hb2 := hb1.trans (hb2.mono hb1.size)
  have c0 := hB2.cell 0
  have c1 := hB2.cell 1
  clear hB1 hb1 hv1
  go_wp2_with fail
  refine (at_any k (l.length + 1) w2 (by omega) (by omega) hk0 hk1).mono ?_
  rintro e w3 ⟨rfl, rfl⟩
  rw [HKK.out]
  go_wp2_with fail
  refine (range_any entry a K A c segs w3 (h.below hb2) (by omega) (by omega)).mono ?_
  rintro e w4 ⟨v, rfl, ⟨A2, cc2, rfl, hx4⟩, hb4⟩
  rw [HR2.out] at hx4 ⊢
  have hv4 := (hv2.below hb4).more hb4.size
  have hB4 := hB2.all hb4
  have hb4 := hb2.trans (hb4.mono hb2.size)
  clear hB2 hb2 hv2 c0 c1
  have c0 := hB4.cell 0
  have c1 := hB4.cell 1
  rcases Int.lt_or_le 65536 (a + K) with hfar | hfar
  · have HR3 := Lib.hid (rangeRes_off (a := a + K) (n := (l.length : Int) - K) HK.out (by omega))
    go_wp2_with fail
    refine (range_any entry (a + K) (l.length - K) A c segs w4 (h.below hb4) (by omega) (by omega)).mono ?_
    rintro e w5 ⟨v, rfl, ⟨A3, cc3, rfl, hy5⟩, hb5⟩
    rw [HR3.out] at hy5 ⊢
    go_wp2
    go_ret
    exact ⟨rfl, hb4.trans (hb5.mono hb4.size)⟩
  · have HR3 := Lib.hid (rangeRes_some (a := a + K) (n := (l.length : Int) - K) HK.out (by omega) (by rw [show ((l.length : Int) - K).toNat = l.length - K from by omega]; exact HY.out))
    go_wp2_with fail
    refine (range_any entry (a + K) (l.length - K) A c segs w4 (h.below hb4) (by omega) (by omega)).mono ?_
    rintro e w5 ⟨v, rfl, ⟨A3, cc3, rfl, hy5⟩, hb5⟩
    rw [HR3.out] at hy5 ⊢
    have hv5 := (hv4.below hb5).more hb5.size
    have hx5 := (hx4.below hb5).more hb5.size
    have hB5 := hB4.all hb5
    have hb5 := hb4.trans (hb5.mono hb4.size)
    clear hB4 hb4 hv4 hx4 c0 c1
    go_wp2_with fail
    refine (concatBytes_any (some ⟨w5.heap.size, 0, none⟩) 2 [⟨A2, X, cc2⟩, ⟨A3, Y, cc3⟩] _ ((Blk.new w5 32 #[.slice A2 X.length cc2, .slice A3 Y.length cc3]).reads (n := 2) rfl) ?_ ?_ (Nat.le_of_ble_eq_true rfl)).mono ?_
    · intro s hs
      simp only [List.mem_cons, List.not_mem_nil, or_false] at hs
      rcases hs with rfl | rfl
      · exact (hx5.alloc (Nat.le_refl _) _).more (by simp)
      · exact (hy5.alloc (Nat.le_refl _) _).more (by simp)
    · have : catBytes [⟨A2, X, cc2⟩, ⟨A3, Y, cc3⟩] = l := by rw [← HXY.out]; simp [catBytes]
      rw [this]; omega
    rintro e w6 ⟨v, rfl, hown, hb6⟩
    have hcat : catBytes [⟨A2, X, cc2⟩, ⟨A3, Y, cc3⟩] = l := by rw [← HXY.out]; simp [catBytes]
    rw [hcat] at hown
    clear hcat
    obtain ⟨A6, cc6, rfl, hw6⟩ := BytesAt.of_own hown
    have hba : Below w5.heap.size w5 (w5.alloc (Obj.cells #[.slice A2 X.length cc2, .slice A3 Y.length cc3] 32)) := (Below.refl _ _).alloc (Nat.le_refl _) _
    have hb56 := hba.trans (hb6.mono (by simp))
    have hv6 := (hv5.below hb56).more hb56.size
    have hB6 := hB5.all hb56
    have hb6 := hb5.trans (hb56.mono hb5.size)
    clear hba hb56 hB5 hb5 hv5 hx5 hy5 hown
    have c0 := hB6.cell 0
    have c1 := hB6.cell 1
    go_wp2_with fail
    refine (bytesEqual_any A6 A1 cc6 cc1 l l w6 hw6 hv6).mono ?_
    rintro e w7 ⟨rfl, rfl⟩
    clear c0 c1 hw6
    go_wp2
    go_loopw [83] (fun i wr => ∃ k : Nat, k ≤ l.length ∧ i = .int .i64 k ∧ Below w7.heap.size w7 wr) (fun i _ => l.length - (intOf i).toNat)
    case atStart => exact ⟨0, Nat.zero_le _, rfl, Below.refl _ _⟩
    case round =>
      obtain ⟨i, hi, rfl, hbr⟩ := hrel
      have hBr := hB6.all hbr
      have hbw := hb6.trans (hbr.mono hb6.size)
      have hvr := (hv6.below hbr).more hbr.size
      by_cases hlt : i < l.length
      · obtain ⟨j, s, hlk, hli⟩ := rangeB_at HL.out hlt
        obtain ⟨b, off, u, rfl, hb, hu, hcu⟩ := hvr.at_ hlt
        rw [bytesV_get hlt] at hu
        cases hu
        have hli' : l[i] = s.byte (a + i) := (List.getElem?_eq_some_iff.1 hli).2
        rw [hli'] at hcu
        have HLK := Lib.hid hlk
        have c0 := hBr.cell 0
        have c1 := hBr.cell 1
        clear hli hli' hlk
        go_wp2_with fail
        refine (byte_hit (h.below hbw) (by omega) (by omega) HK.out HLK.out).mono ?_
        rintro e w8 ⟨rfl, hb8⟩
        go_wp2
        go_roundw
        case rel => exact ⟨i + 1, by omega, by go_num, hbr.trans (hb8.mono hbr.size)⟩
        case measure => simp [intOf]; omega
      · go_wp2
        go_ret
        exact ⟨rfl, hbw⟩
end Go.Proofs.Ytjpkjcmphjnbhaa
