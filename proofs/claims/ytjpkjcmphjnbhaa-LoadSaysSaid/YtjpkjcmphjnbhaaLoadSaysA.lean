/- ropewalklaw.LoadSays returns true, whatever the image, the address, the number. -/
import Derived.Test.YtjpkjcmphjnbhaaLoaded
namespace Go.Proofs.Ytjpkjcmphjnbhaa
open Go.RowKit

set_option maxRecDepth 100000 in
set_option maxHeartbeats 2000000 in
theorem loadSays_bad (entry a n : Int) (A : Option Addr) (c : Nat) (segs : List Seg) (w : World) (h : SegsAt w w.heap.size A segs) (ha0 : -9223372036854775808 ≤ a) (ha1 : a ≤ 9223372036854775807) (hck : ckImg entry segs ≠ 0) :
    Calls Try.prog 4 #[.agg #[.int .i64 entry, .slice A segs.length c], .int .i64 a, .int .i64 n] w fun e w' => e = .returned (.bool true) ∧ Below w.heap.size w w' := by
  have hb0 : Below w.heap.size w (w.alloc (Obj.cells #[Value.int IntKind.i64 entry, Value.slice A segs.length c] 29)) := (Below.refl _ _).alloc (Nat.le_refl _) _
  have hB0 : Blk (w.alloc (Obj.cells #[Value.int IntKind.i64 entry, Value.slice A segs.length c] 29)) w.heap.size 29 #[Value.int IntKind.i64 entry, Value.slice A segs.length c] := Blk.new _ _ _
  have c0 := trivial
  have c1 := trivial
  have hck' : (ckImg entry segs != 0) = true := by simpa using hck
  have HK := Lib.hid hck
  clear hck
  go_enter Try.func4, Try.ntmps4
  (go_wp2_with fail; refine (byte_bad (h.below hb0) ha0 ha1 HK.out).mono ?_; rintro e w1 ⟨rfl, hb1⟩; have hB1 := hB0.all hb1; have hb1 := hb0.trans (hb1.mono hb0.size); clear hB0 hb0 c0 c1; have c0 := hB1.cell 0; have c1 := hB1.cell 1)
  go_wp2_with fail
  refine (range_any entry a n A c segs w1 (h.below hb1) ha0 ha1).mono ?_
  rintro e w2 ⟨v, rfl, ⟨A1, cc1, rfl, hv⟩, hb2⟩
  rw [rangeRes_bad HK.out] at hv ⊢
  have hB2 := hB1.all hb2
  have hb2 := hb1.trans (hb2.mono hb1.size)
  clear hB1 hb1 c0 c1
  have c0 := hB2.cell 0
  have c1 := hB2.cell 1
  (go_wp2_with fail; refine (checkImage_any entry A c segs w2 (h.below hb2)).mono ?_; rintro e w3 ⟨rfl, hb3⟩; have hB3 := hB2.all hb3; have hb3 := hb2.trans (hb3.mono hb2.size); clear hB2 hb2 c0 c1; have c0 := hB3.cell 0; have c1 := hB3.cell 1)
  (go_wp2_with fail; refine (loaded_any w3).mono ?_; rintro e w4 ⟨rfl, hb4⟩; have hB4 := hB3.all hb4; have hb4 := hb3.trans (hb4.mono hb3.size); clear hB3 hb3 c0 c1; have c0 := hB4.cell 0; have c1 := hB4.cell 1)
  (go_wp2_with fail; refine (check_any entry A c segs w4 (h.below hb4)).mono ?_; rintro e w5 ⟨rfl, hb5⟩; have hB5 := hB4.all hb5; have hb5 := hb4.trans (hb5.mono hb4.size); clear hB4 hb4 c0 c1; have c0 := hB5.cell 0; have c1 := hB5.cell 1)
  go_wp2
  go_ret
  exact ⟨rfl, hb5⟩

set_option maxRecDepth 100000 in
set_option maxHeartbeats 4000000 in
theorem loadSays_off (entry a n : Int) (A : Option Addr) (c : Nat) (segs : List Seg) (w : World) (h : SegsAt w w.heap.size A segs) (ha0 : -9223372036854775808 ≤ a) (ha1 : a ≤ 9223372036854775807) (hck : ckImg entry segs = 0) (hoff : a < 0 ∨ n < 0 ∨ a > 65536 ∨ n > 64) :
    Calls Try.prog 4 #[.agg #[.int .i64 entry, .slice A segs.length c], .int .i64 a, .int .i64 n] w fun e w' => e = .returned (.bool true) ∧ Below w.heap.size w w' := by
  have hb0 : Below w.heap.size w (w.alloc (Obj.cells #[Value.int IntKind.i64 entry, Value.slice A segs.length c] 29)) := (Below.refl _ _).alloc (Nat.le_refl _) _
  have hB0 : Blk (w.alloc (Obj.cells #[Value.int IntKind.i64 entry, Value.slice A segs.length c] 29)) w.heap.size 29 #[Value.int IntKind.i64 entry, Value.slice A segs.length c] := Blk.new _ _ _
  obtain ⟨i0, hi, hz0, hz1, hz2⟩ := info_parts Try.infoByte
  have c0 := trivial
  have c1 := trivial
  have hck' : (ckImg entry segs != 0) = false := by rw [hck]; rfl
  have HK := Lib.hid hck
  have HFine := Lib.hid (ckImg_fine hck).1
  clear hck
  obtain ⟨r, hr⟩ : ∃ r, r = rangeRes entry segs a n := ⟨_, rfl⟩
  have HR := Lib.hid hr
  obtain ⟨o, ho⟩ : ∃ o, lookAt segs a 0 = o := ⟨_, rfl⟩
  have HO := Lib.hid ho
  go_enter Try.func4, Try.ntmps4
  (go_wp2_with fail; refine (byte_good (h.below hb0) ha0 ha1 HK.out).mono ?_; rintro e w1 ⟨rfl, hb1⟩; have hB1 := hB0.all hb1; have hb1 := hb0.trans (hb1.mono hb0.size); clear hB0 hb0 c0 c1; have c0 := hB1.cell 0; have c1 := hB1.cell 1)
  rw [ho]
  go_wp2_with fail
  refine (range_any entry a n A c segs w1 (h.below hb1) ha0 ha1).mono ?_
  rintro e w2 ⟨v, rfl, ⟨A1, cc1, rfl, hv⟩, hb2⟩
  rw [← hr] at hv ⊢
  clear hr
  have hB2 := hB1.all hb2
  have hv2 := hv
  have hb2' := hb2
  have hb2 := hb1.trans (hb2.mono hb1.size)
  clear hB1 hb1 c0 c1
  have c0 := hB2.cell 0
  have c1 := hB2.cell 1
  (go_wp2_with fail; refine (checkImage_any entry A c segs w2 (h.below hb2)).mono ?_; rintro e w3 ⟨rfl, hb3⟩; have hB3 := hB2.all hb3; have hb3 := hb2.trans (hb3.mono hb2.size); clear hB2 hb2 c0 c1; have c0 := hB3.cell 0; have c1 := hB3.cell 1)
  (go_wp2_with fail; refine (loaded_any w3).mono ?_; rintro e w4 ⟨rfl, hb4⟩; have hB4 := hB3.all hb4; have hb4 := hb3.trans (hb4.mono hb3.size); clear hB3 hb3 c0 c1; have c0 := hB4.cell 0; have c1 := hB4.cell 1)
  (go_wp2_with fail; refine (check_any entry A c segs w4 (h.below hb4)).mono ?_; rintro e w5 ⟨rfl, hb5⟩; have hB5 := hB4.all hb5; have hb5 := hb4.trans (hb5.mono hb4.size); clear hB4 hb4 c0 c1; have c0 := hB5.cell 0; have c1 := hB5.cell 1)
  (go_wp2_with fail; refine (byteAt_any entry a A c segs w5 (h.below hb5) HFine.out ha0 ha1).mono ?_; rintro e w6 ⟨rfl, hb6⟩; have hB6 := hB5.all hb6; have hb6 := hb5.trans (hb6.mono hb5.size); clear hB5 hb5 c0 c1; have c0 := hB6.cell 0; have c1 := hB6.cell 1)
  rw [ho]
  clear ho
  obtain rfl : r = ([], 3) := HR.out.trans (rangeRes_off HK.out hoff)
  have HX := Lib.hid hoff
  clear hoff
  rcases o with _ | ⟨j, s⟩
  all_goals simp only [atVal, byteOf, idxOf, wrOf, wkOf, Option.isSome]
  · go_wp2_with fail
    all_goals first
      | (go_ret; exact ⟨rfl, hb6⟩)
      | (exfalso; have := HX.out; omega)
  · obtain ⟨_, hidx⟩ := lookAt_idx segs a 0 j s HO.out
    rw [Nat.sub_zero] at hidx
    have hjl : j < segs.length := (List.getElem?_eq_some_iff.1 hidx).1
    have hseg : segs[j] = s := (List.getElem?_eq_some_iff.1 hidx).2
    obtain ⟨b, off, rfl, hab, hcs⟩ := (h.row.below hb6).2 (by omega)
    have hc : ∀ i u, i < 5 → s.cells[i]? = some u → w6.cell? ⟨b, off + j * 5 + i, none⟩ = some u := fun i u hi hu => by rw [Nat.add_assoc]; exact hcs _ u (by rw [flatMap5_get _ _ _ hi hjl, hseg]; exact hu)
    have h3 := hc 3 _ (by omega) rfl
    have h4 := hc 4 _ (by omega) rfl
    have hsm := h.small
    clear hc hcs hseg hidx
    go_wp2_with fail
    all_goals first
      | (go_ret; exact ⟨rfl, hb6⟩)
      | (exfalso; have := HX.out; omega)

end Go.Proofs.Ytjpkjcmphjnbhaa
