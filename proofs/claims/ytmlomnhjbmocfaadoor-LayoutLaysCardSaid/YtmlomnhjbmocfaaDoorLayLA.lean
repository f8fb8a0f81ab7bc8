/- ropewalklaw.LayoutLays: the call returns true, where the part is laid out. -/
import Derived.Test.YtmlomnhjbmocfaaDoorLayLP
set_option linter.all false
namespace Go.Proofs.YtmlomnhjbmocfaaDoor
open Go.RowKit

set_option maxHeartbeats 20000000 in
set_option maxRecDepth 100000 in
theorem layoutLays_good (p : PtM) (base : Int) (s : ByteArray) (w : World) (h : p.At w w.heap.size) (hcap : p.frs.length ≤ p.fc) (h0 : layE p.er base = 0) :
    Calls Tryd.prog 3 #[.agg #[.slice p.fa p.frs.length p.fc, .slice p.da p.dfs.length p.dc], .int .i64 base, .string s] w fun e w' => e = .returned (.bool true) ∧ Below w.heap.size w w' := by
  have kP := Blk.new w 25 #[.slice p.fa p.frs.length p.fc, .slice p.da p.dfs.length p.dc]
  have hb : Below w.heap.size w (w.alloc (.cells #[.slice (p).fa (p).frs.length (p).fc, .slice (p).da (p).dfs.length (p).dc] 25)) := by (repeat' (first | exact Below.refl _ _ | assumption | refine Below.setCell ?_ (by first | omega | exact Below.size (by assumption) | (simp; done) | (simp; omega)) _ | refine Below.alloc ?_ (by first | omega | exact Below.size (by assumption) | (simp; done) | (simp; omega)) _ | refine Below.drew ?_ | refine below_drewN ?_ _))
  have hA := h.all hb
  have HCAP := Lib.hid hcap
  clear h hcap
  go_enter Tryd.func3, Tryd.ntmps3
  go_wp2_with fail
  obtain ⟨gP, hgP⟩ : ∃ g, g = w.heap.size := ⟨_, rfl⟩
  obtain ⟨W, hW⟩ : ∃ W, W = w.alloc (.cells #[.slice (p).fa (p).frs.length (p).fc, .slice (p).da (p).dfs.length (p).dc] 25) := ⟨_, rfl⟩
  rw [show Blk (w.alloc (.cells #[.slice (p).fa (p).frs.length (p).fc, .slice (p).da (p).dfs.length (p).dc] 25)) w.heap.size = Blk W gP by rw [hW, hgP]] at kP
  rw [← hgP]
  rw [← hW] at hb hA ⊢
  clear hW hgP
  refine (lay_any p base W hA).mono ?_
  rintro e w1 ⟨l, rfl, hr, hl, hb1⟩
  replace kP := kP.all hb1
  replace hA := hA.all hb1
  replace hb := hb.trans (hb1.mono hb.size)
  clear hb1
  obtain ⟨hc, hb0, hb1, _⟩ := layE_zero h0
  obtain ⟨n, rfl⟩ : ∃ n : Nat, base = n := ⟨base.toNat, by omega⟩
  rw [h0, lay_cells hr h0]
  have HR := Lib.hid hr
  have H0 := Lib.hid h0
  have HC := Lib.hid hc
  have HN : Hid (n < 65536) := by show n < 65536; omega
  have q1 : decide ((n : Int) < 0) = false := decide_eq_false (by omega)
  have q2 : decide ((65535 : Int) < (n : Int)) = false := decide_eq_false (by omega)
  clear hr h0 hc hb0 hb1
  go_upto_region 2 with (fail)
  have kL := Blk.new w1 30 #[(.slice l.fa p.frs.length l.fc), (.slice l.na (layEnd p.er n).ns.length l.nc), (.slice l.ca (layEnd p.er n).cs.length l.cc), (.int .i64 0), (.int .i64 (secFrom p.er.frs n 1 : Nat)), (.int .i64 (secFrom p.er.frs n 2 : Nat)), (.int .i64 (secFrom p.er.frs n 3 : Nat)), (.int .i64 (secFrom p.er.frs n 4 : Nat)), (.int .i64 (secFrom p.er.frs n 5 : Nat)), (.int .i64 0), (.int .i64 (toN p.er n 1 : Nat)), (.int .i64 (toN p.er n 2 : Nat)), (.int .i64 (toN p.er n 3 : Nat)), (.int .i64 (toN p.er n 4 : Nat)), (.int .i64 (toN p.er n 5 : Nat))]
  have hb2 : Below w1.heap.size w1 (w1.alloc (.cells #[(.slice l.fa p.frs.length l.fc), (.slice l.na (layEnd p.er n).ns.length l.nc), (.slice l.ca (layEnd p.er n).cs.length l.cc), (.int .i64 0), (.int .i64 (secFrom p.er.frs n 1 : Nat)), (.int .i64 (secFrom p.er.frs n 2 : Nat)), (.int .i64 (secFrom p.er.frs n 3 : Nat)), (.int .i64 (secFrom p.er.frs n 4 : Nat)), (.int .i64 (secFrom p.er.frs n 5 : Nat)), (.int .i64 0), (.int .i64 (toN p.er n 1 : Nat)), (.int .i64 (toN p.er n 2 : Nat)), (.int .i64 (toN p.er n 3 : Nat)), (.int .i64 (toN p.er n 4 : Nat)), (.int .i64 (toN p.er n 5 : Nat))] 30)) := by (repeat' (first | exact Below.refl _ _ | assumption | refine Below.setCell ?_ (by first | omega | exact Below.size (by assumption) | (simp; done) | (simp; omega)) _ | refine Below.alloc ?_ (by first | omega | exact Below.size (by assumption) | (simp; done) | (simp; omega)) _ | refine Below.drew ?_ | refine below_drewN ?_ _))
  replace kP := kP.all hb2
  replace hA := hA.all hb2
  replace hl := hl.keep hb2 hb2.size
  replace hb := hb.trans (hb2.mono hb.size)
  obtain ⟨gL, hgL⟩ : ∃ g, g = w1.heap.size := ⟨_, rfl⟩
  obtain ⟨W2, hW2⟩ : ∃ W', W' = w1.alloc (.cells #[(.slice l.fa p.frs.length l.fc), (.slice l.na (layEnd p.er n).ns.length l.nc), (.slice l.ca (layEnd p.er n).cs.length l.cc), (.int .i64 0), (.int .i64 (secFrom p.er.frs n 1 : Nat)), (.int .i64 (secFrom p.er.frs n 2 : Nat)), (.int .i64 (secFrom p.er.frs n 3 : Nat)), (.int .i64 (secFrom p.er.frs n 4 : Nat)), (.int .i64 (secFrom p.er.frs n 5 : Nat)), (.int .i64 0), (.int .i64 (toN p.er n 1 : Nat)), (.int .i64 (toN p.er n 2 : Nat)), (.int .i64 (toN p.er n 3 : Nat)), (.int .i64 (toN p.er n 4 : Nat)), (.int .i64 (toN p.er n 5 : Nat))] 30) := ⟨_, rfl⟩
  rw [← hgL] at kL ⊢
  rw [← hW2] at kL kP hA hl hb ⊢
  clear hW2 hgL hb2
  have p0 := kP.cell 0
  have p1 := kP.cell 1
  go_wp2_with fail
  clear p0 p1
  refine (refCheck_any p W2 hA).mono ?_
  rintro e w3 ⟨rfl, hb3⟩
  rw [HC.out]
  (replace kP := kP.all hb3; replace kL := kL.all hb3; replace hA := hA.all hb3; replace hl := hl.keep hb3 (hb3).size; replace hb := hb.trans ((hb3).mono hb.size))
  clear hb3
  go_upto_region 7 with (fail)
  obtain ⟨w4, hw4⟩ : ∃ y, y = w3.heap.size := ⟨_, rfl⟩
  have kRw := Blk.new w3 30 #[.slice none 0 0, .slice none 0 0, .slice none 0 0, .int .i64 0, .int .i64 0, .int .i64 0, .int .i64 0, .int .i64 0, .int .i64 0, .int .i64 0, .int .i64 0, .int .i64 0, .int .i64 0, .int .i64 0, .int .i64 0]
  have hbr : Below w3.heap.size w3 (w3.alloc (.cells #[.slice none 0 0, .slice none 0 0, .slice none 0 0, .int .i64 0, .int .i64 0, .int .i64 0, .int .i64 0, .int .i64 0, .int .i64 0, .int .i64 0, .int .i64 0, .int .i64 0, .int .i64 0, .int .i64 0, .int .i64 0] 30)) := by (repeat' (first | exact Below.refl _ _ | assumption | refine Below.setCell ?_ (by first | omega | exact Below.size (by assumption) | (simp; done) | (simp; omega)) _ | refine Below.alloc ?_ (by first | omega | exact Below.size (by assumption) | (simp; done) | (simp; omega)) _ | refine Below.drew ?_ | refine below_drewN ?_ _))
  obtain ⟨wr, hwr⟩ : ∃ W', W' = w3.alloc (.cells #[.slice none 0 0, .slice none 0 0, .slice none 0 0, .int .i64 0, .int .i64 0, .int .i64 0, .int .i64 0, .int .i64 0, .int .i64 0, .int .i64 0, .int .i64 0, .int .i64 0, .int .i64 0, .int .i64 0, .int .i64 0] 30) := ⟨_, rfl⟩
  obtain ⟨gR, hgR⟩ : ∃ g, g = w3.heap.size := ⟨_, rfl⟩
  have hgR1 : w3.heap.size ≤ gR := by omega
  rw [← hgR] at kRw ⊢
  rw [← hwr] at kRw hbr ⊢
  clear hwr hgR hw4
  have kP3 := kP
  have hA3 := hA
  replace kP := kP.all hbr
  replace hA := hA.all hbr
  have p0 := kP.cell 0
  have p1 := kP.cell 1
  go_wp2_with fail
  refine (laidOut_any p n wr hA HCAP.out HC.out HN.out).mono ?_
  rintro e w5 ⟨m, rfl, hmr, hm, hmf, hb5⟩
  rw [H0.out, lay_cells hmr H0.out]
  have HMR := Lib.hid hmr
  have hgw := kRw.lt
  replace kRw := kRw.all hb5
  replace hbr := hbr.trans (hb5.mono hbr.size)
  clear hmr hb5 p0 p1
  (have r0 := kRw.cell 0; have g0 := kRw.frozen 0; have r1 := kRw.cell 1; have g1 := kRw.frozen 1; have r2 := kRw.cell 2; have g2 := kRw.frozen 2; have r3 := kRw.cell 3; have g3 := kRw.frozen 3; have r4 := kRw.cell 4; have g4 := kRw.frozen 4; have r5 := kRw.cell 5; have g5 := kRw.frozen 5; have r6 := kRw.cell 6; have g6 := kRw.frozen 6; have r7 := kRw.cell 7; have g7 := kRw.frozen 7; have r8 := kRw.cell 8; have g8 := kRw.frozen 8; have r9 := kRw.cell 9; have g9 := kRw.frozen 9; have r10 := kRw.cell 10; have g10 := kRw.frozen 10; have r11 := kRw.cell 11; have g11 := kRw.frozen 11; have r12 := kRw.cell 12; have g12 := kRw.frozen 12; have r13 := kRw.cell 13; have g13 := kRw.frozen 13; have r14 := kRw.cell 14; have g14 := kRw.frozen 14)
  go_upto_region 8 with (fail)
  obtain ⟨W9, hW9⟩ : ∃ W, W = put15 w5 gR (.slice m.fa p.frs.length m.fc) (.slice m.na (layEnd p.er n).ns.length m.nc) (.slice m.ca (layEnd p.er n).cs.length m.cc) (.int .i64 0) (.int .i64 (secFrom p.er.frs n 1 : Nat)) (.int .i64 (secFrom p.er.frs n 2 : Nat)) (.int .i64 (secFrom p.er.frs n 3 : Nat)) (.int .i64 (secFrom p.er.frs n 4 : Nat)) (.int .i64 (secFrom p.er.frs n 5 : Nat)) (.int .i64 0) (.int .i64 (toN p.er n 1 : Nat)) (.int .i64 (toN p.er n 2 : Nat)) (.int .i64 (toN p.er n 3 : Nat)) (.int .i64 (toN p.er n 4 : Nat)) (.int .i64 (toN p.er n 5 : Nat)) := ⟨_, rfl⟩
  have kW := put15_blk (.slice m.fa p.frs.length m.fc) (.slice m.na (layEnd p.er n).ns.length m.nc) (.slice m.ca (layEnd p.er n).cs.length m.cc) (.int .i64 0) (.int .i64 (secFrom p.er.frs n 1 : Nat)) (.int .i64 (secFrom p.er.frs n 2 : Nat)) (.int .i64 (secFrom p.er.frs n 3 : Nat)) (.int .i64 (secFrom p.er.frs n 4 : Nat)) (.int .i64 (secFrom p.er.frs n 5 : Nat)) (.int .i64 0) (.int .i64 (toN p.er n 1 : Nat)) (.int .i64 (toN p.er n 2 : Nat)) (.int .i64 (toN p.er n 3 : Nat)) (.int .i64 (toN p.er n 4 : Nat)) (.int .i64 (toN p.er n 5 : Nat)) kRw
  have hB9 := put15_below (.slice m.fa p.frs.length m.fc) (.slice m.na (layEnd p.er n).ns.length m.nc) (.slice m.ca (layEnd p.er n).cs.length m.cc) (.int .i64 0) (.int .i64 (secFrom p.er.frs n 1 : Nat)) (.int .i64 (secFrom p.er.frs n 2 : Nat)) (.int .i64 (secFrom p.er.frs n 3 : Nat)) (.int .i64 (secFrom p.er.frs n 4 : Nat)) (.int .i64 (secFrom p.er.frs n 5 : Nat)) (.int .i64 0) (.int .i64 (toN p.er n 1 : Nat)) (.int .i64 (toN p.er n 2 : Nat)) (.int .i64 (toN p.er n 3 : Nat)) (.int .i64 (toN p.er n 4 : Nat)) (.int .i64 (toN p.er n 5 : Nat)) hbr hgR1
  have hz9 := put15_size (w := w5) (g := gR) (.slice m.fa p.frs.length m.fc) (.slice m.na (layEnd p.er n).ns.length m.nc) (.slice m.ca (layEnd p.er n).cs.length m.cc) (.int .i64 0) (.int .i64 (secFrom p.er.frs n 1 : Nat)) (.int .i64 (secFrom p.er.frs n 2 : Nat)) (.int .i64 (secFrom p.er.frs n 3 : Nat)) (.int .i64 (secFrom p.er.frs n 4 : Nat)) (.int .i64 (secFrom p.er.frs n 5 : Nat)) (.int .i64 0) (.int .i64 (toN p.er n 1 : Nat)) (.int .i64 (toN p.er n 2 : Nat)) (.int .i64 (toN p.er n 3 : Nat)) (.int .i64 (toN p.er n 4 : Nat)) (.int .i64 (toN p.er n 5 : Nat))
  have G9 := put15_grown (.slice m.fa p.frs.length m.fc) (.slice m.na (layEnd p.er n).ns.length m.nc) (.slice m.ca (layEnd p.er n).cs.length m.cc) (.int .i64 0) (.int .i64 (secFrom p.er.frs n 1 : Nat)) (.int .i64 (secFrom p.er.frs n 2 : Nat)) (.int .i64 (secFrom p.er.frs n 3 : Nat)) (.int .i64 (secFrom p.er.frs n 4 : Nat)) (.int .i64 (secFrom p.er.frs n 5 : Nat)) (.int .i64 0) (.int .i64 (toN p.er n 1 : Nat)) (.int .i64 (toN p.er n 2 : Nat)) (.int .i64 (toN p.er n 3 : Nat)) (.int .i64 (toN p.er n 4 : Nat)) (.int .i64 (toN p.er n 5 : Nat)) w5 gR
  rw [← hW9] at kW hB9 hz9 G9
  unfold put15 at hW9
  rw [← hW9]
  clear hW9 r0 r1 r2 r3 r4 r5 r6 r7 r8 r9 r10 r11 r12 r13 r14 g0 g1 g2 g3 g4 g5 g6 g7 g8 g9 g10 g11 g12 g13 g14
  replace hm := hm.past G9 (hmf.less (by omega))
  (replace kP := kP3.all hB9; replace kL := kL.all hB9; replace hA := hA3.all hB9; replace hl := hl.keep hB9 hB9.size; replace hb := hb.trans (hB9.mono hb.size))
  clear kP3 hA3
  clear hB9 hz9 G9 hmf hbr kRw hgw
  go_wp2_with fail
  refine (laid_any W9).mono ?_
  rintro e w6 ⟨rfl, hb6⟩
  (replace kP := kP.all hb6; replace kL := kL.all hb6; replace hA := hA.all hb6; replace hl := hl.keep hb6 (hb6).size; replace hb := hb.trans ((hb6).mono hb.size))
  (replace kW := kW.all hb6; replace hm := hm.keep hb6 (hb6).size)
  clear hb6
  have HS := Lib.hid (sameLay_good p n l m w6 hl hm H0.out HR.out HMR.out)
  (have q_0 := (kL).cell 0; have q_1 := (kL).cell 1; have q_2 := (kL).cell 2; have q_3 := (kL).cell 3; have q_4 := (kL).cell 4; have q_5 := (kL).cell 5; have q_6 := (kL).cell 6; have q_7 := (kL).cell 7; have q_8 := (kL).cell 8; have q_9 := (kL).cell 9; have q_10 := (kL).cell 10; have q_11 := (kL).cell 11; have q_12 := (kL).cell 12; have q_13 := (kL).cell 13; have q_14 := (kL).cell 14)
  (have r_0 := (kW).cell 0; have r_1 := (kW).cell 1; have r_2 := (kW).cell 2; have r_3 := (kW).cell 3; have r_4 := (kW).cell 4; have r_5 := (kW).cell 5; have r_6 := (kW).cell 6; have r_7 := (kW).cell 7; have r_8 := (kW).cell 8; have r_9 := (kW).cell 9; have r_10 := (kW).cell 10; have r_11 := (kW).cell 11; have r_12 := (kW).cell 12; have r_13 := (kW).cell 13; have r_14 := (kW).cell 14)
  go_wp2_with fail
  refine HS.out.mono ?_
  rintro e w7 ⟨rfl, hb7⟩
  (replace kP := kP.all hb7; replace kL := kL.all hb7; replace hA := hA.all hb7; replace hl := hl.keep hb7 (hb7).size; replace hb := hb.trans ((hb7).mono hb.size))
  (replace kW := kW.all hb7; replace hm := hm.keep hb7 (hb7).size)
  clear hb7 HS q_0 q_1 q_2 q_3 q_4 q_5 q_6 q_7 q_8 q_9 q_10 q_11 q_12 q_13 q_14 r_0 r_1 r_2 r_3 r_4 r_5 r_6 r_7 r_8 r_9 r_10 r_11 r_12 r_13 r_14
  have p0 := kP.cell 0
  have p1 := kP.cell 1
  (have q_0 := (kL).cell 0; have q_1 := (kL).cell 1; have q_2 := (kL).cell 2; have q_3 := (kL).cell 3; have q_4 := (kL).cell 4; have q_5 := (kL).cell 5; have q_6 := (kL).cell 6; have q_7 := (kL).cell 7; have q_8 := (kL).cell 8; have q_9 := (kL).cell 9; have q_10 := (kL).cell 10; have q_11 := (kL).cell 11; have q_12 := (kL).cell 12; have q_13 := (kL).cell 13; have q_14 := (kL).cell 14)
  have HWH := Lib.hid (where_any p l n s w7 hA hl HR.out H0.out)
  go_wp2_with fail
  refine HWH.out.mono ?_
  rintro e w8 ⟨rfl, hb8⟩
  (replace kP := kP.all hb8; replace kL := kL.all hb8; replace hA := hA.all hb8; replace hl := hl.keep hb8 (hb8).size; replace hb := hb.trans ((hb8).mono hb.size))
  (replace kW := kW.all hb8; replace hm := hm.keep hb8 (hb8).size)
  clear hb8 HWH p0 p1 q_0 q_1 q_2 q_3 q_4 q_5 q_6 q_7 q_8 q_9 q_10 q_11 q_12 q_13 q_14
  have p0 := kP.cell 0
  have p1 := kP.cell 1
  (have r_0 := (kW).cell 0; have r_1 := (kW).cell 1; have r_2 := (kW).cell 2; have r_3 := (kW).cell 3; have r_4 := (kW).cell 4; have r_5 := (kW).cell 5; have r_6 := (kW).cell 6; have r_7 := (kW).cell 7; have r_8 := (kW).cell 8; have r_9 := (kW).cell 9; have r_10 := (kW).cell 10; have r_11 := (kW).cell 11; have r_12 := (kW).cell 12; have r_13 := (kW).cell 13; have r_14 := (kW).cell 14)
  have HWH := Lib.hid (stands_any p m n s w8 hA hm HMR.out H0.out)
  go_wp2_with fail
  refine HWH.out.mono ?_
  rintro e w10 ⟨rfl, hb10⟩
  (replace kP := kP.all hb10; replace kL := kL.all hb10; replace hA := hA.all hb10; replace hl := hl.keep hb10 (hb10).size; replace hb := hb.trans ((hb10).mono hb.size))
  clear hb10 HWH
  obtain ⟨x, hx⟩ : ∃ x, (whereA p.er n s).1 = x := ⟨_, rfl⟩
  obtain ⟨y, hy⟩ : ∃ y, (whereA p.er n s).2 = y := ⟨_, rfl⟩
  rw [hx, hy]
  have t1 : (x == x) = true := by simp
  have t2 : (y == y) = true := by simp
  go_wp2
  go_ret
  exact ⟨rfl, hb⟩

end Go.Proofs.YtmlomnhjbmocfaaDoor
