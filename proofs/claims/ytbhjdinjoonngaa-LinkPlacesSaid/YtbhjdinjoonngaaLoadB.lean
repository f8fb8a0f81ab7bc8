/- load.Byte, ropewalkref.ByteAt: what they compute. -/
import Derived.Test.YtbhjdinjoonngaaLoadW
set_option linter.all false
namespace Go.Proofs.Ytbhjdinjoonngaa
open Go.RowKit

set_option maxHeartbeats 1000000 in
theorem byte_any (entry a : Int) (A : Option Addr) (c : Nat) (segs : List Seg) (w : World) (h : SegsAt w w.heap.size A segs) (ha0 : -9223372036854775808 ≤ a) (ha1 : a ≤ 9223372036854775807) :
    Calls Try.prog 46 #[.agg #[.int .i64 entry, .slice A segs.length c], .int .i64 a] w fun e w' => e = .returned (byteRes entry segs a).val ∧ Below w.heap.size w w' := by
  have hb0 : Below w.heap.size w (w.alloc (Obj.cells #[Value.int IntKind.i64 entry, Value.slice A segs.length c] 87)) := (Below.refl _ _).alloc (Nat.le_refl _) _
  go_enter Try.func46, Try.ntmps46
  go_wp2_with fail
  refine (loadCheck_any entry A c segs _ (h.below hb0)).mono ?_
  rintro e w1 ⟨rfl, hb1⟩
  have hc1 : w1.cell? ⟨w.heap.size, 1, none⟩ = some (.slice A segs.length c) := by
    rw [hb1.cell (by simp)]; simp
  have hb : Below w.heap.size w w1 := hb0.trans (hb1.mono (by simp))
  have hz : w.heap.size < w1.heap.size := by have := hb1.size; simp at this; omega
  clear hb1 hb0
  have hh := h.below hb
  by_cases hck : ckImg entry segs = 0
  · have hck' : (ckImg entry segs != 0) = false := by rw [hck]; rfl
    have HK := Lib.hid hck
    clear hck
    go_wp2
    go_loopw [4, 21] (fun v i wr => ∃ k : Nat, k ≤ segs.length ∧ i = .int .i64 k ∧ v = .int .u8 0 ∧ Hid (lookAt segs a 0 = lookAt (segs.drop k) a k) ∧ Below w.heap.size w wr ∧ w.heap.size < wr.heap.size) (fun _ i _ => segs.length - (intOf i).toNat)
    case atStart => exact ⟨0, Nat.zero_le _, rfl, rfl, rfl, hb, hz⟩
    case round =>
      obtain ⟨k, hk, rfl, rfl, hlk, hbr, hzr⟩ := hrel
      clear hc1 hh hb hz
      by_cases hlt : k < segs.length
      · have hseg := h.each segs[k] (List.getElem_mem _)
        have hfine := (ckImg_fine HK.out).1 segs[k] (List.getElem_mem _)
        obtain ⟨b, off, rfl, hab, hcs⟩ := (h.row.below hbr).2 (by omega)
        obtain ⟨s, hs⟩ : ∃ s, s = segs[k] := ⟨_, rfl⟩
        rw [← hs] at hseg hfine
        have hc : ∀ j u, j < 5 → s.cells[j]? = some u → wr.cell? ⟨b, off + k * 5 + j, none⟩ = some u := fun j u hj hu => by rw [Nat.add_assoc]; exact hcs _ u (by rw [flatMap5_get _ _ _ hj hlt, ← hs]; exact hu)
        have h0 := hc 0 _ (by omega) rfl
        have h1 := hc 1 _ (by omega) rfl
        have h2 := hc 2 _ (by omega) rfl
        have h3 := hc 3 _ (by omega) rfl
        have h4 := hc 4 _ (by omega) rfl
        rw [Nat.add_zero] at h0
        have HD := Lib.hid (show segs.drop k = s :: segs.drop (k + 1) by rw [hs]; exact List.drop_eq_getElem_cons hlt)
        obtain ⟨f0, f1, f2, f3, f4⟩ := hfine
        clear hc hcs hs
        have hsm := h.small
        rcases Int.lt_or_le a s.At with ha | ha
        · have hd : decide (a < s.At) = true := by simpa using ha
          go_wp2
          go_roundw
          case rel => exact ⟨k + 1, by omega, by go_num, rfl, by have e1 := hlk.out; rw [HD.out, lookAt_miss (by omega)] at e1; exact e1, by (repeat' (first | exact Below.refl _ _ | assumption | refine Below.setCell ?_ (by first | omega | exact Below.size (by assumption) | (simp; done) | (simp; omega)) _ | refine Below.alloc ?_ (by first | omega | exact Below.size (by assumption) | (simp; done) | (simp; omega)) _ | refine Below.drew ?_ | refine below_drewN ?_ _)), by simp; omega⟩
          case measure => simp [intOf]; omega
        · have hd : decide (a < s.At) = false := by simpa using ha
          rcases Int.lt_or_le (a - s.At) (s.Bytes.length + s.Zeros) with hin | hin
          · have hd2 : decide ((s.Bytes.length : Int) + s.Zeros ≤ a - s.At) = false := by simpa using hin
            have e1 := hlk.out
            rw [HD.out, lookAt_hit ha hin] at e1
            have HF := Lib.hid (byteRes_hit HK.out e1)
            clear e1 hlk
            rcases Int.lt_or_le (a - s.At) s.Bytes.length with hl | hl
            · obtain ⟨b', off', u, hba, hbl, hu, hcu⟩ := (hseg.below hbr).at_ (k := (a - s.At).toNat) (by omega)
              rw [bytesV_get (by omega)] at hu
              cases hu
              rw [← byte_in] at hcu
              rw [hba] at h1
              clear hba
              have hcu2 : ∀ o : Obj, (wr.alloc o).cell? ⟨b', off' + (a - s.At).toNat, none⟩ = some (.int .u8 ((s.byte a).toNat : Int)) := fun o => (World.cell?_alloc_lt wr o _ (by simp; omega)).trans hcu
              go_wp2
              go_quiet (fail)
              go_wp2
              refine bodyPost_ret (results_tmp5 rfl _ _ _) rfl ?_
              exact ⟨ret_val (by rw [HF.out]; rfl), by (repeat' (first | exact Below.refl _ _ | assumption | refine Below.setCell ?_ (by first | omega | exact Below.size (by assumption) | (simp; done) | (simp; omega)) _ | refine Below.alloc ?_ (by first | omega | exact Below.size (by assumption) | (simp; done) | (simp; omega)) _ | refine Below.drew ?_ | refine below_drewN ?_ _))⟩
            · have HB := Lib.hid (byte_out (s := s) (a := a) (by omega))
              go_wp2
              go_quiet (fail)
              go_wp2
              refine bodyPost_ret (results_tmp5 rfl _ _ _) rfl ?_
              exact ⟨ret_val (by rw [HF.out, HB.out]; rfl), by (repeat' (first | exact Below.refl _ _ | assumption | refine Below.setCell ?_ (by first | omega | exact Below.size (by assumption) | (simp; done) | (simp; omega)) _ | refine Below.alloc ?_ (by first | omega | exact Below.size (by assumption) | (simp; done) | (simp; omega)) _ | refine Below.drew ?_ | refine below_drewN ?_ _))⟩
          · have hd2 : decide ((s.Bytes.length : Int) + s.Zeros ≤ a - s.At) = true := by simpa using hin
            go_wp2
            go_roundw
            case rel => exact ⟨k + 1, by omega, by go_num, rfl, by have e1 := hlk.out; rw [HD.out, lookAt_miss (by omega)] at e1; exact e1, by (repeat' (first | exact Below.refl _ _ | assumption | refine Below.setCell ?_ (by first | omega | exact Below.size (by assumption) | (simp; done) | (simp; omega)) _ | refine Below.alloc ?_ (by first | omega | exact Below.size (by assumption) | (simp; done) | (simp; omega)) _ | refine Below.drew ?_ | refine below_drewN ?_ _)), by simp; omega⟩
            case measure => simp [intOf]; omega
      · have e1 := hlk.out
        rw [List.drop_eq_nil_of_le (by omega), lookAt] at e1
        have HF := Lib.hid (byteRes_none HK.out e1)
        clear e1 hlk
        go_wp2
        refine bodyPost_ret (results_tmp5 rfl _ _ _) rfl ?_
        exact ⟨ret_val (by rw [HF.out]; rfl), by (repeat' (first | exact Below.refl _ _ | assumption | refine Below.setCell ?_ (by first | omega | exact Below.size (by assumption) | (simp; done) | (simp; omega)) _ | refine Below.alloc ?_ (by first | omega | exact Below.size (by assumption) | (simp; done) | (simp; omega)) _ | refine Below.drew ?_ | refine below_drewN ?_ _))⟩
  · have hck' : (ckImg entry segs != 0) = true := by simpa using hck
    have HK := Lib.hid hck
    clear hck
    go_wp2
    refine bodyPost_ret (results_tmp5 rfl _ _ _) rfl ?_
    exact ⟨ret_val (by rw [byteRes_bad HK.out]; rfl), by (repeat' (first | exact Below.refl _ _ | assumption | refine Below.setCell ?_ (by first | omega | exact Below.size (by assumption) | (simp; done) | (simp; omega)) _ | refine Below.alloc ?_ (by first | omega | exact Below.size (by assumption) | (simp; done) | (simp; omega)) _ | refine Below.drew ?_ | refine below_drewN ?_ _))⟩
end Go.Proofs.Ytbhjdinjoonngaa
