/- ropewalkref.ByteAt: what it computes, of a right image. -/
import Derived.Test.YtjpkjcmphjnbhaaLoadB
namespace Go.Proofs.Ytjpkjcmphjnbhaa
open Go.RowKit

def atVal (a : Int) (o : Option (Nat × Seg)) : Value := .tuple #[.int .u8 ((byteOf a o).toNat : Int), .int .i64 (idxOf o)]

set_option maxHeartbeats 1000000 in
theorem byteAt_any (entry a : Int) (A : Option Addr) (c : Nat) (segs : List Seg) (w : World) (h : SegsAt w w.heap.size A segs) (hf : ∀ s ∈ segs, s.Fine) (ha0 : -9223372036854775808 ≤ a) (ha1 : a ≤ 9223372036854775807) :
    Calls Try.prog 17 #[.agg #[.int .i64 entry, .slice A segs.length c], .int .i64 a] w fun e w' => e = .returned (atVal a (lookAt segs a 0)) ∧ Below w.heap.size w w' := by
  have HFine := Lib.hid hf
  clear hf
  go_enter Try.func17, Try.ntmps17
  go_wp2
  go_loopw [11] (fun i wr => ∃ k : Nat, k ≤ segs.length ∧ i = .int .i64 k ∧ Hid (lookAt segs a 0 = lookAt (segs.drop k) a k) ∧ Below w.heap.size w wr ∧ w.heap.size < wr.heap.size) (fun i _ => segs.length - (intOf i).toNat)
  case atStart => exact ⟨0, Nat.zero_le _, rfl, rfl, by (repeat' (first | exact Below.refl _ _ | assumption | refine Below.setCell ?_ (by first | omega | exact Below.size (by assumption) | (simp; done) | (simp; omega)) _ | refine Below.alloc ?_ (by first | omega | exact Below.size (by assumption) | (simp; done) | (simp; omega)) _ | refine Below.drew ?_ | refine below_drewN ?_ _)), by simp⟩
  case round =>
    obtain ⟨k, hk, rfl, hlk, hbr, hzr⟩ := hrel
    by_cases hlt : k < segs.length
    · have hseg := h.each segs[k] (List.getElem_mem _)
      have hfine := HFine.out segs[k] (List.getElem_mem _)
      obtain ⟨b, off, rfl, hab, hcs⟩ := (h.row.below hbr).2 (by omega)
      obtain ⟨s, hs⟩ : ∃ s, s = segs[k] := ⟨_, rfl⟩
      rw [← hs] at hseg hfine
      have hc : ∀ j u, j < 5 → s.cells[j]? = some u → wr.cell? ⟨b, off + k * 5 + j, none⟩ = some u := fun j u hj hu => by rw [Nat.add_assoc]; exact hcs _ u (by rw [flatMap5_get _ _ _ hj hlt, ← hs]; exact hu)
      have h0 := hc 0 _ (by omega) rfl
      have h1 := hc 1 _ (by omega) rfl
      have h2 := hc 2 _ (by omega) rfl
      have h3 := hc 3 _ (by omega) rfl
      have h4 := hc 4 _ (by omega) rfl
      rw [Nat.add_zero] at h0
      have HD := Lib.hid (show segs.drop k = s :: segs.drop (k + 1) by rw [hs]; exact List.drop_eq_getElem_cons hlt)
      obtain ⟨f0, f1, f2, f3, f4⟩ := hfine
      clear hc hcs hs
      have hsm := h.small
      rcases Int.lt_or_le a s.At with ha | ha
      · have hd : decide (s.At ≤ a) = false := by simpa using ha
        go_wp2
        go_roundw
        case rel => exact ⟨k + 1, by omega, by go_num, by have e1 := hlk.out; rw [HD.out, lookAt_miss (by omega)] at e1; exact e1, by (repeat' (first | exact Below.refl _ _ | assumption | refine Below.setCell ?_ (by first | omega | exact Below.size (by assumption) | (simp; done) | (simp; omega)) _ | refine Below.alloc ?_ (by first | omega | exact Below.size (by assumption) | (simp; done) | (simp; omega)) _ | refine Below.drew ?_ | refine below_drewN ?_ _)), by simp; omega⟩
        case measure => simp [intOf]; omega
      · have hd : decide (s.At ≤ a) = true := by simpa using ha
        rcases Int.lt_or_le (a - s.At) (s.Bytes.length + s.Zeros) with hin | hin
        · have hd2 : decide (a - s.At < (s.Bytes.length : Int) + s.Zeros) = true := by simpa using hin
          have e1 := hlk.out
          rw [HD.out, lookAt_hit ha hin] at e1
          have HF := Lib.hid e1
          clear e1 hlk
          rcases Int.lt_or_le (a - s.At) s.Bytes.length with hl | hl
          · have hd3 : decide (a - s.At < (s.Bytes.length : Int)) = true := by simpa using hl
            obtain ⟨b', off', u, hba, hbl, hu, hcu⟩ := (hseg.below hbr).at_ (k := (a - s.At).toNat) (by omega)
            rw [bytesV_get (by omega)] at hu
            cases hu
            rw [← byte_in] at hcu
            rw [hba] at h1
            clear hba
            have hcu2 : ∀ o : Obj, (wr.alloc o).cell? ⟨b', off' + (a - s.At).toNat, none⟩ = some (.int .u8 ((s.byte a).toNat : Int)) := fun o => (World.cell?_alloc_lt wr o _ (by simp; omega)).trans hcu
            go_wp2
            go_ret2
            exact ⟨ret_val (by rw [HF.out]; rfl), by (repeat' (first | exact Below.refl _ _ | assumption | refine Below.setCell ?_ (by first | omega | exact Below.size (by assumption) | (simp; done) | (simp; omega)) _ | refine Below.alloc ?_ (by first | omega | exact Below.size (by assumption) | (simp; done) | (simp; omega)) _ | refine Below.drew ?_ | refine below_drewN ?_ _))⟩
          · have hd3 : decide (a - s.At < (s.Bytes.length : Int)) = false := by simpa using hl
            have HB := Lib.hid (byte_out (s := s) (a := a) (by omega))
            go_wp2
            go_ret2
            exact ⟨ret_val (by rw [HF.out]; simp only [atVal, byteOf, HB.out]; rfl), by (repeat' (first | exact Below.refl _ _ | assumption | refine Below.setCell ?_ (by first | omega | exact Below.size (by assumption) | (simp; done) | (simp; omega)) _ | refine Below.alloc ?_ (by first | omega | exact Below.size (by assumption) | (simp; done) | (simp; omega)) _ | refine Below.drew ?_ | refine below_drewN ?_ _))⟩
        · have hd2 : decide (a - s.At < (s.Bytes.length : Int) + s.Zeros) = false := by simpa using hin
          have hd3 : decide (a - s.At < (s.Bytes.length : Int)) = false := by simp; omega
          go_wp2
          go_roundw
          case rel => exact ⟨k + 1, by omega, by go_num, by have e1 := hlk.out; rw [HD.out, lookAt_miss (by omega)] at e1; exact e1, by (repeat' (first | exact Below.refl _ _ | assumption | refine Below.setCell ?_ (by first | omega | exact Below.size (by assumption) | (simp; done) | (simp; omega)) _ | refine Below.alloc ?_ (by first | omega | exact Below.size (by assumption) | (simp; done) | (simp; omega)) _ | refine Below.drew ?_ | refine below_drewN ?_ _)), by simp; omega⟩
          case measure => simp [intOf]; omega
    · have e1 := hlk.out
      rw [List.drop_eq_nil_of_le (by omega), lookAt] at e1
      have HF := Lib.hid e1
      clear e1 hlk
      go_wp2
      go_ret2
      exact ⟨ret_val (by rw [HF.out]; rfl), by (repeat' (first | exact Below.refl _ _ | assumption | refine Below.setCell ?_ (by first | omega | exact Below.size (by assumption) | (simp; done) | (simp; omega)) _ | refine Below.alloc ?_ (by first | omega | exact Below.size (by assumption) | (simp; done) | (simp; omega)) _ | refine Below.drew ?_ | refine below_drewN ?_ _))⟩
end Go.Proofs.Ytjpkjcmphjnbhaa
