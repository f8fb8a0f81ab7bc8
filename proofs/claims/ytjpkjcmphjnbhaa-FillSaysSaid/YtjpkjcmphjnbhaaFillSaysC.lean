/- ropewalklaw.FillSays returns true where the place is there, two bytes wide. -/
import Derived.Test.YtjpkjcmphjnbhaaFillSaysB
namespace Go.Proofs.Ytjpkjcmphjnbhaa
open Go.RowKit

set_option maxRecDepth 100000 in
set_option maxHeartbeats 800000 in
theorem fillSays_2 (k from_ to_ add a n : Int) (A : Option Addr) (c : Nat) (b : List UInt8) (w : World) (h : Reads w w.heap.size 1 A b.length (bytesV b)) (hm : b.length ≤ 9223372036854775807) (hf0 : -9223372036854775808 ≤ from_) (hf1 : from_ ≤ 9223372036854775807) (hp0 : -9223372036854775808 ≤ a) (hp1 : a ≤ 9223372036854775807) (h0 : leastOf k ≤ mostOf k) (h1 : (b.length : Int) ≤ 65536) (h2 : 0 ≤ a) (h3 : a ≤ (b.length : Int) - wideOf k) (hw : wideOf k = 2) : Calls Try.prog 6 #[.int .i64 k, .int .i64 from_, .int .i64 to_, .int .i64 add, .slice A b.length c, .int .i64 a, .int .i64 n] w fun e w' => e = .returned (.bool true) ∧ Below w.heap.size w w' := by
  obtain ⟨C, f, hp⟩ : ∃ C f, putRes b a k n = (C, f) := ⟨_, _, rfl⟩
  obtain ⟨m, hg⟩ : ∃ m, signed k (getB b a.toNat k) = m := ⟨_, rfl⟩
  have HP := Lib.hid hp
  have HG := Lib.hid ((getRes_fits h0 h1 h2 h3).trans (by rw [hg]))
  obtain ⟨x, y, hv⟩ : ∃ x y, valueRes k from_ to_ add = (x, y) := ⟨_, _, rfl⟩
  have HV := Lib.hid hv
  have d0 : decide (mostOf k < leastOf k) = false := by simpa using h0
  have d1 : decide (a < 0) = false := by simpa using h2
  obtain ⟨lb0, lb1⟩ := least_bd k
  obtain ⟨mb0, mb1⟩ := most_bd k
  have d2 : decide ((b.length : Int) < a) = false := by simp; omega
  have d3 : decide ((b.length : Int) < a + 2) = false := by simp; omega
  have hWO := fun W => wideOf_any k W
  rw [hw] at hWO
  have h3' : a ≤ (b.length : Int) - 2 := by omega
  obtain ⟨bb, ob, rfl, hbb, hcs⟩ := h.2 (by omega)
  have hcu := hcs a.toNat _ (bytesV_get (by omega))
  have hcq := hcs (a.toNat + 1) _ (bytesV_get (by omega))
  have ea : a.toNat + 1 = (a + 1).toNat := by omega
  have hwant := signed_want h0 b a.toNat
  rw [hg, getB_two hw b a.toNat (by omega)] at hwant
  obtain ⟨z, hz⟩ : ∃ z : Nat, (b[a.toNat]'(by omega)).toNat = z := ⟨_, rfl⟩
  have hz1 : z ≤ 255 := by have := (b[a.toNat]'(by omega)).toNat_lt; omega
  obtain ⟨q, hq⟩ : ∃ z : Nat, (b[a.toNat + 1]'(by omega)).toNat = z := ⟨_, rfl⟩
  have hq1 : q ≤ 255 := by have := (b[a.toNat + 1]'(by omega)).toNat_lt; omega
  rw [hz, hq] at hwant
  rw [hz] at hcu
  rw [hq, ea] at hcq
  have HM := Lib.hid hwant
  have HW := Lib.hid hw
  clear hz hq hwant hp hg hv hw hcs ea
  go_enter Try.func6, Try.ntmps6
  (go_wp2_with fail; refine (fillRange_any k w).mono ?_; rintro e w' ⟨rfl, rfl⟩; go_wp2_with fail; refine (value_any k from_ to_ add w hf0 hf1).mono ?_; rintro e w' ⟨rfl, rfl⟩; rw [HV.out]; go_wp2_with fail; refine (put_any k a n _ c b w h hm).mono ?_; rintro e w1 ⟨v, rfl, ⟨A1, c1, rfl, hv⟩, hb1⟩; rw [HP.out] at hv ⊢; have hx1 := (h.below hb1).more hb1.size; go_wp2_with fail; refine (get_any k a _ c b w1 hx1 hm).mono ?_; rintro e w' ⟨rfl, rfl⟩; rw [HG.out]; go_wp2_with fail; refine (bounds_any k w1).mono ?_; rintro e w2 ⟨rfl, hb2⟩; have hx2 := (hx1.below hb2).more hb2.size; have hv2 := (hv.below hb2).more hb2.size; have hb2 := hb1.trans (hb2.mono hb1.size); clear hx1 hv hb1; go_wp2_with fail; refine (valueOf_any k from_ to_ add w2 hf0 hf1).mono ?_; rintro e w3 ⟨rfl, hb3⟩; rw [HV.out]; have hx3 := (hx2.below hb3).more hb3.size; have hv3 := (hv2.below hb3).more hb3.size; have hb3 := hb2.trans (hb3.mono hb2.size); clear hx2 hv2 hb2; go_wp2_with fail; refine (putFact_any w3).mono ?_; rintro e w4 ⟨rfl, hb4⟩; have hx4 := (hx3.below hb4).more hb4.size; have hv4 := (hv3.below hb4).more hb4.size; have hb4 := hb3.trans (hb4.mono hb3.size); clear hx3 hv3 hb3)
  go_wp2_with fail
  refine (hWO w4).mono ?_
  rintro e w5 ⟨rfl, hb5⟩
  have hx5 := (hx4.below hb5).more hb5.size
  have hv5 := (hv4.below hb5).more hb5.size
  have hb5 := hb4.trans (hb5.mono hb4.size)
  have hcu5 := (hb5.cell hbb).trans hcu
  have hcq5 := (hb5.cell hbb).trans hcq
  clear hx4 hv4 hb4
  go_wp2_with fail
  refine (hWO w5).mono ?_
  rintro e w6 ⟨rfl, hb6⟩
  have hx6 := (hx5.below hb6).more hb6.size
  have hv6 := (hv5.below hb6).more hb6.size
  have hb6 := hb5.trans (hb6.mono hb5.size)
  have hcq6 := (hb6.cell hbb).trans hcq
  clear hx5 hv5 hb5 hcu5 hcq5
  go_upto_if 158 with (fail)
  go_cut [28] (fun s wx => s = .int .i64 m ∧ wx = w6)
  case first =>
    have hm2 := HM.out
    rcases Int.lt_or_le (mostOf k) ((z : Int) + 256 * (q : Int)) with h7 | h7
    · rw [if_pos h7] at hm2
      subst hm2
      go_wp2_with fail
      go_meet
      exact ⟨rfl, rfl⟩
    · rw [if_neg (by omega)] at hm2
      subst hm2
      go_wp2_with fail
      go_meet
      exact ⟨rfl, rfl⟩
  case rest =>
    obtain ⟨rfl, rfl⟩ := hcut
    clear HM
    rcases Decidable.em (n < leastOf k ∨ mostOf k < n) with h8 | h8
    · have hpo := putRes_over h0 h1 h2 (by rw [HW.out]; exact h3') h8
      have hpp := HP.out
      rw [hpo] at hpp
      obtain ⟨rfl, rfl⟩ := Prod.mk.inj hpp
      have H8 := Lib.hid h8
      clear hpp hpo h8
      go_wp2_with fail
      all_goals first
        | (go_ret; exact ⟨rfl, hb6⟩)
        | (exfalso; have := H8.out; omega)
    · have hpf := putRes_fits h0 h1 h2 (by rw [HW.out]; exact h3') (by omega : leastOf k ≤ n) (by omega)
      have hpp := HP.out
      rw [hpf] at hpp
      obtain ⟨hC, rfl⟩ := Prod.mk.inj hpp
      have HC := Lib.hid hC
      have d8 : decide (n < leastOf k) = false := by simp; omega
      have d9 : decide (mostOf k < n) = false := by simp; omega
      have n0 : leastOf k ≤ n := by omega
      have n1 : n ≤ mostOf k := by omega
      clear hpp hpf h8 hC
      go_wp2_with fail
      refine (cloneBytes_any _ b.length c (bytesV b) _ hx6 (bytes_one b) (by omega) (by omega)).mono ?_
      rintro e w7 ⟨v, rfl, hown, hb7⟩
      obtain ⟨g, c7, rfl, hg0, hg1⟩ := hown.form (by omega)
      have hb67 := hb7
      have hb7 := hb6.trans (hb67.mono hb6.size)
      go_wp2_with fail
      refine (hWO w7).mono ?_
      rintro e w8 ⟨rfl, hb8⟩
      have hown8 := own_below hown hb8
      have hv8 := hv6.below (hb67.trans (hb8.mono hb67.size))
      have hg8 : g < w8.heap.size := by have := hb8.size; omega
      have hb8 := hb7.trans (hb8.mono hb7.size)
      have hgw : w.heap.size ≤ g := by have := hb6.size; omega
      have hcell : ∀ o : Obj, (w8.alloc o).cell? ⟨g, a.toNat, none⟩ = some (.int .u8 ((b[a.toNat]'(by omega)).toNat : Int)) := fun o => (World.cell?_alloc_lt w8 o _ hg8).trans ((hown8.cellAt a.toNat (by omega)).trans (bytesV_get (by omega)))
      have hfr : ∀ o : Obj, (w8.alloc o).frozen? ⟨g, a.toNat, none⟩ = false := fun o => (hown8.alloc o).frozenAt a.toNat
      have hst1 := hown8.stored a.toNat (.int .u8 (n % 256))
      have ea : (a + 1).toNat = a.toNat + 1 := by omega
      have hcell2 : ∀ o o' : Obj, (((w8.setCell ⟨g, a.toNat, none⟩ (.int .u8 (n % 256))).alloc o).alloc o').cell? ⟨g, (a + 1).toNat, none⟩ = some (.int .u8 ((b[a.toNat + 1]'(by omega)).toNat : Int)) := fun o o' => by
        rw [((hst1.1.alloc o).alloc o').cellAt (a + 1).toNat (by omega), ea, List.getElem?_set_ne (by omega)]; exact bytesV_get (by omega)
      have hfr2 : ∀ o o' : Obj, (((w8.setCell ⟨g, a.toNat, none⟩ (.int .u8 (n % 256))).alloc o).alloc o').frozen? ⟨g, (a + 1).toNat, none⟩ = false := fun o o' => ((hst1.1.alloc o).alloc o').frozenAt _
      have HST := Lib.hid hst1.1
      have hmod : (n + 65536) % 256 = n % 256 := by omega
      have hmod2 : (n + 65536) / 256 % 256 = n / 256 % 256 := by omega
      clear hst1 ea
      clear hown hv6 hb7 hb67 hx6
      go_wp2_with fail
      refine wp_loop_rounds 3 ?_
      rw [rounds_succ]
      go_wp2_with fail
      rw [rounds_succ]
      go_wp2_with fail
      rw [rounds_succ]
      go_wp2_with fail
      have hst := ((HST.out.stored (a.toNat + 1) (.int .u8 (n / 256 % 256))).1.alloc (.cells #[.int .i64 1, .int .i64 256] 3)).alloc (.cells #[.int .i64 1, .int .i64 256] 3)
      rw [← putB_two HW.out, HC.out, show a.toNat + 1 = (a + 1).toNat from by omega] at hst
      have hCl : C.length = b.length := by rw [← HC.out, putB_len]
      have hst2 := Reads.of_own hst
      have hvv := ((((hv8.setCell (p := ⟨g, a.toNat, none⟩) hg0 (.int .u8 (n % 256))).setCell (p := ⟨g, (a + 1).toNat, none⟩) hg0 (.int .u8 (n / 256 % 256))).alloc (by simp; have := hb8.size; omega) (.cells #[.int .i64 1, .int .i64 256] 3)).alloc (by simp; have := hb8.size; omega) (.cells #[.int .i64 1, .int .i64 256] 3)).more (B' := ((((w8.setCell ⟨g, a.toNat, none⟩ (.int .u8 (n % 256))).setCell ⟨g, (a + 1).toNat, none⟩ (.int .u8 (n / 256 % 256))).alloc (.cells #[.int .i64 1, .int .i64 256] 3)).alloc (.cells #[.int .i64 1, .int .i64 256] 3)).heap.size) (by simp; omega)
      refine (bytesEqual_len A1 _ c1 c7 C.length b.length C C _ rfl hCl hvv hst2).mono ?_
      rintro e w9 ⟨rfl, rfl⟩
      clear hCl
      go_wp2
      go_ret
      exact ⟨ret_val (by simp), by (repeat' (first | exact Below.refl _ _ | assumption | refine Below.setCell ?_ (by first | omega | exact Below.size (by assumption) | (simp; done) | (simp; omega)) _ | refine Below.alloc ?_ (by first | omega | exact Below.size (by assumption) | (simp; done) | (simp; omega)) _ | refine Below.drew ?_ | refine below_drewN ?_ _))⟩
end Go.Proofs.Ytjpkjcmphjnbhaa
