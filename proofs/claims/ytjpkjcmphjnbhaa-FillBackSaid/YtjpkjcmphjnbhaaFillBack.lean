/- ropewalklaw.FillBack returns true, whatever the bytes and the three numbers. -/
import Derived.Test.YtjpkjcmphjnbhaaFillX
import Derived.Test.YtjpkjcmphjnbhaaFillL
namespace Go.Proofs.Ytjpkjcmphjnbhaa
open Go.RowKit

theorem quiet_left {P : Program} {f : FuncId} {args : Array Value} {w : World} {n : Nat} {v : Value}
    (h : Calls P f args (w.drewN n) fun e w' => e = .returned v ∧ w.drewN n = w') : Calls P f args (w.drewN n) fun e w'' => e = .returned v ∧ ∃ m, w'' = w.drewN m :=
  h.mono fun _ _ ⟨he, hm⟩ => ⟨he, n, hm.symm⟩

set_option maxRecDepth 100000 in
set_option maxHeartbeats 1000000 in
theorem fillBack_err (a k n : Int) (A : Option Addr) (c : Nat) (b : List UInt8) (w : World) (h : Reads w w.heap.size 1 A b.length (bytesV b)) (hm : b.length ≤ 9223372036854775807) (hr : (putRes b a k n).2 ≠ 0) :
    Calls Try.prog 7 #[.slice A b.length c, .int .i64 a, .int .i64 k, .int .i64 n] w fun e w' => e = .returned (.bool true) ∧ Below w.heap.size w w' := by
  have hne : ((putRes b a k n).2 != 0) = true := by simpa using hr
  clear hr
  go_enter Try.func7, Try.ntmps7
  go_wp2_with fail
  refine (put_any k a n A c b w h hm).mono ?_
  rintro e w1 ⟨v, rfl, ⟨A1, c1, rfl, hv⟩, hb1⟩
  go_wp2_with fail
  refine (putFact_any w1).mono ?_
  rintro e w2 ⟨rfl, hb2⟩
  go_wp2_with fail
  refine (putFact_any w2).mono ?_
  rintro e w3 ⟨rfl, hb3⟩
  go_wp2
  go_ret
  have h2 := hb1.trans (hb2.mono hb1.size)
  exact ⟨rfl, h2.trans (hb3.mono h2.size)⟩

set_option maxRecDepth 100000 in
set_option maxHeartbeats 1000000 in
theorem fillBack_ok (a k n : Int) (A : Option Addr) (c : Nat) (b : List UInt8) (w : World) (h : Reads w w.heap.size 1 A b.length (bytesV b)) (hm : b.length ≤ 9223372036854775807) (hr : (putRes b a k n).2 = 0) :
    Calls Try.prog 7 #[.slice A b.length c, .int .i64 a, .int .i64 k, .int .i64 n] w fun e w' => e = .returned (.bool true) ∧ Below w.heap.size w w' := by
  obtain ⟨h0, hl, ha0, ha1, hn0, hn1, hres⟩ := putRes_ok hr
  obtain ⟨C, hC⟩ : ∃ C, putB b a.toNat k n = C := ⟨_, rfl⟩
  have hClen : C.length = b.length := by rw [← hC, putB_len]
  obtain ⟨wb0, wb1⟩ := wide_bd k
  have hw1 : 1 ≤ wideOf k := by rcases wide_or h0 with e | e <;> omega
  have hap : (a.toNat : Int) ≤ b.length - wideOf k := by omega
  have hg1 : getRes C a k = (n, 0) := by
    rw [getRes_fits h0 (by omega) ha0 (by omega), ← hC, get_put h0 hn0 hn1 hap]
  obtain ⟨was, hwas⟩ : ∃ x, signed k (getB b a.toNat k) = x := ⟨_, rfl⟩
  have hg2 : getRes b a k = (was, 0) := by rw [getRes_fits h0 hl ha0 ha1, hwas]
  have hp2 : putRes C a k was = (b, 0) := by
    have := get_range h0 b a.toNat
    rw [hwas] at this
    rw [putRes_fits h0 (by omega) ha0 (by omega) this.1 this.2, ← hC, ← hwas, put_back h0 hap]
  have helse : ∀ i : Nat, ((i : Int) < a ∨ a + wideOf k ≤ (i : Int)) → C[i]? = b[i]? := fun i hi => by
    rw [← hC]; exact put_else (by omega) hw1
  rw [hC] at hres
  have HR := Lib.hid hres
  have HG1 := Lib.hid hg1
  have HG2 := Lib.hid hg2
  have HP2 := Lib.hid hp2
  have HE := Lib.hid helse
  have HCL := Lib.hid hClen
  have cl0 : C.length ≤ b.length := by omega
  have cl1 : b.length ≤ C.length := by omega
  have clb : ((C.length : Int) != (b.length : Int)) = false := by rw [hClen]; simp
  clear hres hg1 hg2 hp2 helse hwas hC hr hClen
  go_enter Try.func7, Try.ntmps7
  go_wp2_with fail
  refine (put_any k a n A c b w h hm).mono ?_
  rintro e w1 ⟨v, rfl, ⟨A1, c1, rfl, hv⟩, hb1⟩
  rw [HR.out] at hv ⊢
  have hx1 := (h.below hb1).more hb1.size
  go_wp2_with fail
  refine (putFact_any w1).mono ?_
  rintro e w2 ⟨rfl, hb2⟩
  have hv2 := (hv.below hb2).more hb2.size
  have hx2 := (hx1.below hb2).more hb2.size
  have hb2 := hb1.trans (hb2.mono hb1.size)
  clear hv hx1 hb1
  go_wp2_with fail
  refine (get_any k a A1 c1 C w2 hv2 (by omega)).mono ?_
  rintro e w3 ⟨rfl, rfl⟩
  rw [HG1.out]
  go_wp2_with fail
  go_loopw [54] (fun i wr => ∃ j : Nat, j ≤ b.length ∧ i = .int .i64 j ∧ Below w2.heap.size w2 wr) (fun i _ => b.length - (intOf i).toNat)
  case atStart => exact ⟨0, Nat.zero_le _, rfl, Below.refl _ _⟩
  case round =>
    obtain ⟨j, hj, rfl, hbr⟩ := hrel
    have hvr := (hv2.below hbr).more hbr.size
    have hxr := (hx2.below hbr).more hbr.size
    have hbw := hb2.trans (hbr.mono hb2.size)
    by_cases hlt : j < b.length
    · rcases Int.lt_or_le j a with h1 | h1
      · have q1 : decide ((j : Int) < a) = true := by simpa using h1
        obtain ⟨bb, ob, u, rfl, hbb, hu, hcu⟩ := hxr.at_ hlt
        rw [bytesV_get hlt] at hu
        cases hu
        obtain ⟨bc, oc, u, rfl, hbc, hu, hcv⟩ := hvr.at_ (k := j) (by omega)
        rw [bytesV_get (by omega)] at hu
        cases hu
        have ecb : C[j]'(by omega) = b[j] := Option.some.inj ((List.getElem?_eq_getElem (by omega)).symm.trans ((HE.out j (by omega)).trans (List.getElem?_eq_getElem hlt)))
        rw [ecb] at hcv
        clear ecb
        go_wp2_with fail
        go_quiet ((go_at_call 30; exact quiet_left (wide_any _ _)))
        go_wp2
        go_roundw
        case rel => exact ⟨j + 1, by omega, by go_num, by (repeat' (first | exact Below.refl _ _ | assumption | refine Below.setCell ?_ (by first | omega | exact Below.size (by assumption) | (simp; done) | (simp; omega)) _ | refine Below.alloc ?_ (by first | omega | exact Below.size (by assumption) | (simp; done) | (simp; omega)) _ | refine Below.drew ?_ | refine below_drewN ?_ _))⟩
        case measure => simp [intOf]; omega
      · have q1 : decide ((j : Int) < a) = false := by simpa using h1
        rcases Int.lt_or_le j (a + wideOf k) with h2 | h2
        · have q2 : decide (a + wideOf k ≤ (j : Int)) = false := by simpa using h2
          go_wp2_with fail
          go_quiet ((go_at_call 30; exact quiet_left (wide_any _ _)))
          go_wp2
          go_roundw
          case rel => exact ⟨j + 1, by omega, by go_num, by (repeat' (first | exact Below.refl _ _ | assumption | refine Below.setCell ?_ (by first | omega | exact Below.size (by assumption) | (simp; done) | (simp; omega)) _ | refine Below.alloc ?_ (by first | omega | exact Below.size (by assumption) | (simp; done) | (simp; omega)) _ | refine Below.drew ?_ | refine below_drewN ?_ _))⟩
          case measure => simp [intOf]; omega
        · have q2 : decide (a + wideOf k ≤ (j : Int)) = true := by simpa using h2
          obtain ⟨bb, ob, u, rfl, hbb, hu, hcu⟩ := hxr.at_ hlt
          rw [bytesV_get hlt] at hu
          cases hu
          obtain ⟨bc, oc, u, rfl, hbc, hu, hcv⟩ := hvr.at_ (k := j) (by omega)
          rw [bytesV_get (by omega)] at hu
          cases hu
          have ecb : C[j]'(by omega) = b[j] := Option.some.inj ((List.getElem?_eq_getElem (by omega)).symm.trans ((HE.out j (by omega)).trans (List.getElem?_eq_getElem hlt)))
          rw [ecb] at hcv
          clear ecb
          go_wp2_with fail
          go_quiet ((go_at_call 30; exact quiet_left (wide_any _ _)))
          go_wp2
          go_roundw
          case rel => exact ⟨j + 1, by omega, by go_num, by (repeat' (first | exact Below.refl _ _ | assumption | refine Below.setCell ?_ (by first | omega | exact Below.size (by assumption) | (simp; done) | (simp; omega)) _ | refine Below.alloc ?_ (by first | omega | exact Below.size (by assumption) | (simp; done) | (simp; omega)) _ | refine Below.drew ?_ | refine below_drewN ?_ _))⟩
          case measure => simp [intOf]; omega
    · go_wp2_with fail
      refine (get_any k a A c b wr hxr hm).mono ?_
      rintro e w3 ⟨rfl, rfl⟩
      rw [HG2.out]
      go_wp2_with fail
      refine (put_any k a was A1 c1 C wr hvr (by omega)).mono ?_
      rintro e w4 ⟨v, rfl, ⟨A4, c4, rfl, hv4⟩, hb4⟩
      rw [HP2.out] at hv4 ⊢
      go_wp2_with fail
      refine (bytesEqual_any A4 A c4 c b b w4 hv4 ((hxr.below hb4).more hb4.size)).mono ?_
      rintro e w5 ⟨rfl, rfl⟩
      go_wp2
      go_ret
      exact ⟨ret_val (by simp), hbw.trans (hb4.mono hbw.size)⟩
end Go.Proofs.Ytjpkjcmphjnbhaa
