/- ropewalklaw.LayoutLays: the call returns true, where the part or the base is wrong. -/
import Derived.Test.YtmlomnhjbmocfaaDoorLayLP
set_option linter.all false
namespace Go.Proofs.YtmlomnhjbmocfaaDoor
open Go.RowKit

set_option maxHeartbeats 20000000 in
set_option maxRecDepth 100000 in
theorem layoutLays_rng1 (p : PtM) (base : Int) (s : ByteArray) (w : World) (h : p.At w w.heap.size) (hcap : p.frs.length ≤ p.fc) (h0 : layE p.er base ≠ 0) (hc : ckPart p.er = 0) (hbase : base < 0) :
    Calls Tryd.prog 3 #[.agg #[.slice p.fa p.frs.length p.fc, .slice p.da p.dfs.length p.dc], .int .i64 base, .string s] w fun e w' => e = .returned (.bool true) ∧ Below w.heap.size w w' := by
  have kP := Blk.new w 25 #[.slice p.fa p.frs.length p.fc, .slice p.da p.dfs.length p.dc]
  have hb : Below w.heap.size w (w.alloc (.cells #[.slice (p).fa (p).frs.length (p).fc, .slice (p).da (p).dfs.length (p).dc] 25)) := by (repeat' (first | exact Below.refl _ _ | assumption | refine Below.setCell ?_ (by first | omega | exact Below.size (by assumption) | (simp; done) | (simp; omega)) _ | refine Below.alloc ?_ (by first | omega | exact Below.size (by assumption) | (simp; done) | (simp; omega)) _ | refine Below.drew ?_ | refine below_drewN ?_ _))
  have hA := h.all hb
  have HCAP := Lib.hid hcap
  clear h hcap
  go_enter Tryd.func3, Tryd.ntmps3
  go_wp2_with fail
  obtain ⟨gP, hgP⟩ : ∃ g, g = w.heap.size := ⟨_, rfl⟩
  obtain ⟨W, hW⟩ : ∃ W, W = w.alloc (.cells #[.slice (p).fa (p).frs.length (p).fc, .slice (p).da (p).dfs.length (p).dc] 25) := ⟨_, rfl⟩
  rw [show Blk (w.alloc (.cells #[.slice (p).fa (p).frs.length (p).fc, .slice (p).da (p).dfs.length (p).dc] 25)) w.heap.size = Blk W gP by rw [hW, hgP]] at kP
  rw [← hgP]
  rw [← hW] at hb hA ⊢
  clear hW hgP
  refine (lay_any p base W hA).mono ?_
  rintro e w1 ⟨l, rfl, hr, hl, hb1⟩
  replace kP := kP.all hb1
  replace hA := hA.all hb1
  replace hb := hb.trans (hb1.mono hb.size)
  clear hb1
  rw [lay_cells_bad hr h0]
  have HR := Lib.hid (hr.trans (layR_bad h0))
  obtain ⟨x, hx⟩ : ∃ x, layE p.er base = x := ⟨_, rfl⟩
  have HX := Lib.hid hx
  have hx0 : (x != 0) = true := by rw [hx] at h0; simpa using h0
  have hx1 : (x == x) = true := by simp
  have hx2 : (x != x) = false := by simp
  rw [hx]
  have H0 := Lib.hid h0
  clear hr hx h0
  go_upto_region 2 with (fail)
  have kL := Blk.new w1 30 #[.slice (l).fa 0 (l).fc, .slice (l).na 0 (l).nc, .slice (l).ca 0 (l).cc, .int .i64 0, .int .i64 0, .int .i64 0, .int .i64 0, .int .i64 0, .int .i64 0, .int .i64 0, .int .i64 0, .int .i64 0, .int .i64 0, .int .i64 0, .int .i64 0]
  have hb2 : Below w1.heap.size w1 (w1.alloc (.cells #[.slice (l).fa 0 (l).fc, .slice (l).na 0 (l).nc, .slice (l).ca 0 (l).cc, .int .i64 0, .int .i64 0, .int .i64 0, .int .i64 0, .int .i64 0, .int .i64 0, .int .i64 0, .int .i64 0, .int .i64 0, .int .i64 0, .int .i64 0, .int .i64 0] 30)) := by (repeat' (first | exact Below.refl _ _ | assumption | refine Below.setCell ?_ (by first | omega | exact Below.size (by assumption) | (simp; done) | (simp; omega)) _ | refine Below.alloc ?_ (by first | omega | exact Below.size (by assumption) | (simp; done) | (simp; omega)) _ | refine Below.drew ?_ | refine below_drewN ?_ _))
  replace kP := kP.all hb2
  replace hA := hA.all hb2
  replace hl := hl.keep hb2 hb2.size
  replace hb := hb.trans (hb2.mono hb.size)
  obtain ⟨gL, hgL⟩ : ∃ g, g = w1.heap.size := ⟨_, rfl⟩
  obtain ⟨W2, hW2⟩ : ∃ W', W' = w1.alloc (.cells #[.slice (l).fa 0 (l).fc, .slice (l).na 0 (l).nc, .slice (l).ca 0 (l).cc, .int .i64 0, .int .i64 0, .int .i64 0, .int .i64 0, .int .i64 0, .int .i64 0, .int .i64 0, .int .i64 0, .int .i64 0, .int .i64 0, .int .i64 0, .int .i64 0] 30) := ⟨_, rfl⟩
  rw [← hgL] at kL ⊢
  rw [← hW2] at kL kP hA hl hb ⊢
  clear hW2 hgL hb2
  have p0 := kP.cell 0
  have p1 := kP.cell 1
  go_wp2_with fail
  clear p0 p1
  refine (refCheck_any p W2 hA).mono ?_
  rintro e w3 ⟨rfl, hb3⟩
  (replace kP := kP.all hb3; replace kL := kL.all hb3; replace hA := hA.all hb3; replace hl := hl.keep hb3 (hb3).size; replace hb := hb.trans ((hb3).mono hb.size))
  clear hb3
  rw [hc]
  have hx3 : x = 3 := by rw [← HX.out]; unfold layE; rw [if_neg (by simp [hc]), if_pos (by omega)]
  subst hx3
  have q1 : decide (base < 0) = true := decide_eq_true hbase
  clear hc hbase
  go_upto_region 8 with (fail)
  have kW := Blk.new w3 30 #[.slice none 0 0, .slice none 0 0, .slice none 0 0, .int .i64 0, .int .i64 0, .int .i64 0, .int .i64 0, .int .i64 0, .int .i64 0, .int .i64 0, .int .i64 0, .int .i64 0, .int .i64 0, .int .i64 0, .int .i64 0]
  have hbr : Below w3.heap.size w3 (w3.alloc (.cells #[.slice none 0 0, .slice none 0 0, .slice none 0 0, .int .i64 0, .int .i64 0, .int .i64 0, .int .i64 0, .int .i64 0, .int .i64 0, .int .i64 0, .int .i64 0, .int .i64 0, .int .i64 0, .int .i64 0, .int .i64 0] 30)) := by (repeat' (first | exact Below.refl _ _ | assumption | refine Below.setCell ?_ (by first | omega | exact Below.size (by assumption) | (simp; done) | (simp; omega)) _ | refine Below.alloc ?_ (by first | omega | exact Below.size (by assumption) | (simp; done) | (simp; omega)) _ | refine Below.drew ?_ | refine below_drewN ?_ _))
  obtain ⟨W9, hW9⟩ : ∃ W', W' = w3.alloc (.cells #[.slice none 0 0, .slice none 0 0, .slice none 0 0, .int .i64 0, .int .i64 0, .int .i64 0, .int .i64 0, .int .i64 0, .int .i64 0, .int .i64 0, .int .i64 0, .int .i64 0, .int .i64 0, .int .i64 0, .int .i64 0] 30) := ⟨_, rfl⟩
  obtain ⟨gR, hgR⟩ : ∃ g, g = w3.heap.size := ⟨_, rfl⟩
  rw [← hgR] at kW ⊢
  rw [← hW9] at kW hbr ⊢
  clear hW9 hgR
  (replace kP := kP.all hbr; replace kL := kL.all hbr; replace hA := hA.all hbr; replace hl := hl.keep hbr (hbr).size; replace hb := hb.trans ((hbr).mono hb.size))
  clear hbr
  obtain ⟨m, hmz⟩ : ∃ m : LyM, m = ⟨.zero, none, 0, none, 0, none, 0⟩ := ⟨_, rfl⟩
  have hm : m.At W9 W9.heap.size := by rw [hmz]; exact ⟨Reads.none_, Reads.none_, Reads.none_⟩
  have HMR : Hid (m.r = .zero) := by show _ = _; rw [hmz]
  rw [show #[Value.slice none 0 0, .slice none 0 0, .slice none 0 0, .int .i64 0, .int .i64 0, .int .i64 0, .int .i64 0, .int .i64 0, .int .i64 0, .int .i64 0, .int .i64 0, .int .i64 0, .int .i64 0, .int .i64 0, .int .i64 0] = #[.slice (m).fa 0 (m).fc, .slice (m).na 0 (m).nc, .slice (m).ca 0 (m).cc, .int .i64 0, .int .i64 0, .int .i64 0, .int .i64 0, .int .i64 0, .int .i64 0, .int .i64 0, .int .i64 0, .int .i64 0, .int .i64 0, .int .i64 0, .int .i64 0] by rw [hmz]] at kW
  clear hmz
  go_wp2_with fail
  refine (laid_any W9).mono ?_
  rintro e w6 ⟨rfl, hb6⟩
  (replace kP := kP.all hb6; replace kL := kL.all hb6; replace hA := hA.all hb6; replace hl := hl.keep hb6 (hb6).size; replace hb := hb.trans ((hb6).mono hb.size))
  (replace kW := kW.all hb6; replace hm := hm.keep hb6 (hb6).size)
  clear hb6
  (have q_0 := (kL).cell 0; have q_1 := (kL).cell 1; have q_2 := (kL).cell 2; have q_3 := (kL).cell 3; have q_4 := (kL).cell 4; have q_5 := (kL).cell 5; have q_6 := (kL).cell 6; have q_7 := (kL).cell 7; have q_8 := (kL).cell 8; have q_9 := (kL).cell 9; have q_10 := (kL).cell 10; have q_11 := (kL).cell 11; have q_12 := (kL).cell 12; have q_13 := (kL).cell 13; have q_14 := (kL).cell 14)
  (have r_0 := (kW).cell 0; have r_1 := (kW).cell 1; have r_2 := (kW).cell 2; have r_3 := (kW).cell 3; have r_4 := (kW).cell 4; have r_5 := (kW).cell 5; have r_6 := (kW).cell 6; have r_7 := (kW).cell 7; have r_8 := (kW).cell 8; have r_9 := (kW).cell 9; have r_10 := (kW).cell 10; have r_11 := (kW).cell 11; have r_12 := (kW).cell 12; have r_13 := (kW).cell 13; have r_14 := (kW).cell 14)
  have HS := Lib.hid (sameLay_bad l m w6 hl hm HR.out HMR.out)
  go_wp2_with fail
  refine HS.out.mono ?_
  rintro e w7 ⟨rfl, hb7⟩
  (replace kP := kP.all hb7; replace kL := kL.all hb7; replace hA := hA.all hb7; replace hl := hl.keep hb7 (hb7).size; replace hb := hb.trans ((hb7).mono hb.size))
  (replace kW := kW.all hb7; replace hm := hm.keep hb7 (hb7).size)
  clear hb7 HS q_0 q_1 q_2 q_3 q_4 q_5 q_6 q_7 q_8 q_9 q_10 q_11 q_12 q_13 q_14 r_0 r_1 r_2 r_3 r_4 r_5 r_6 r_7 r_8 r_9 r_10 r_11 r_12 r_13 r_14
  go_wp2_with fail
  refine (laid_any w7).mono ?_
  rintro e w8 ⟨rfl, hb8⟩
  (replace kP := kP.all hb8; replace kL := kL.all hb8; replace hA := hA.all hb8; replace hl := hl.keep hb8 (hb8).size; replace hb := hb.trans ((hb8).mono hb.size))
  (replace kW := kW.all hb8; replace hm := hm.keep hb8 (hb8).size)
  clear hb8
  (have q_0 := (kL).cell 0; have q_1 := (kL).cell 1; have q_2 := (kL).cell 2; have q_3 := (kL).cell 3; have q_4 := (kL).cell 4; have q_5 := (kL).cell 5; have q_6 := (kL).cell 6; have q_7 := (kL).cell 7; have q_8 := (kL).cell 8; have q_9 := (kL).cell 9; have q_10 := (kL).cell 10; have q_11 := (kL).cell 11; have q_12 := (kL).cell 12; have q_13 := (kL).cell 13; have q_14 := (kL).cell 14)
  (have r_0 := (kW).cell 0; have r_1 := (kW).cell 1; have r_2 := (kW).cell 2; have r_3 := (kW).cell 3; have r_4 := (kW).cell 4; have r_5 := (kW).cell 5; have r_6 := (kW).cell 6; have r_7 := (kW).cell 7; have r_8 := (kW).cell 8; have r_9 := (kW).cell 9; have r_10 := (kW).cell 10; have r_11 := (kW).cell 11; have r_12 := (kW).cell 12; have r_13 := (kW).cell 13; have r_14 := (kW).cell 14)
  have HS := Lib.hid (sameLay_bad l m w8 hl hm HR.out HMR.out)
  go_wp2_with fail
  refine HS.out.mono ?_
  rintro e w10 ⟨rfl, hb10⟩
  (replace kP := kP.all hb10; replace kL := kL.all hb10; replace hA := hA.all hb10; replace hl := hl.keep hb10 (hb10).size; replace hb := hb.trans ((hb10).mono hb.size))
  clear hb10
  go_wp2
  go_ret
  exact ⟨rfl, hb⟩

set_option maxHeartbeats 20000000 in
set_option maxRecDepth 100000 in
theorem layoutLays_rng2 (p : PtM) (base : Int) (s : ByteArray) (w : World) (h : p.At w w.heap.size) (hcap : p.frs.length ≤ p.fc) (h0 : layE p.er base ≠ 0) (hc : ckPart p.er = 0) (h1 : ¬base < 0) (hbase : 65535 < base) :
    Calls Tryd.prog 3 #[.agg #[.slice p.fa p.frs.length p.fc, .slice p.da p.dfs.length p.dc], .int .i64 base, .string s] w fun e w' => e = .returned (.bool true) ∧ Below w.heap.size w w' := by
  have kP := Blk.new w 25 #[.slice p.fa p.frs.length p.fc, .slice p.da p.dfs.length p.dc]
  have hb : Below w.heap.size w (w.alloc (.cells #[.slice (p).fa (p).frs.length (p).fc, .slice (p).da (p).dfs.length (p).dc] 25)) := by (repeat' (first | exact Below.refl _ _ | assumption | refine Below.setCell ?_ (by first | omega | exact Below.size (by assumption) | (simp; done) | (simp; omega)) _ | refine Below.alloc ?_ (by first | omega | exact Below.size (by assumption) | (simp; done) | (simp; omega)) _ | refine Below.drew ?_ | refine below_drewN ?_ _))
  have hA := h.all hb
  have HCAP := Lib.hid hcap
  clear h hcap
  go_enter Tryd.func3, Tryd.ntmps3
  go_wp2_with fail
  obtain ⟨gP, hgP⟩ : ∃ g, g = w.heap.size := ⟨_, rfl⟩
  obtain ⟨W, hW⟩ : ∃ W, W = w.alloc (.cells #[.slice (p).fa (p).frs.length (p).fc, .slice (p).da (p).dfs.length (p).dc] 25) := ⟨_, rfl⟩
  rw [show Blk (w.alloc (.cells #[.slice (p).fa (p).frs.length (p).fc, .slice (p).da (p).dfs.length (p).dc] 25)) w.heap.size = Blk W gP by rw [hW, hgP]] at kP
  rw [← hgP]
  rw [← hW] at hb hA ⊢
  clear hW hgP
  refine (lay_any p base W hA).mono ?_
  rintro e w1 ⟨l, rfl, hr, hl, hb1⟩
  replace kP := kP.all hb1
  replace hA := hA.all hb1
  replace hb := hb.trans (hb1.mono hb.size)
  clear hb1
  rw [lay_cells_bad hr h0]
  have HR := Lib.hid (hr.trans (layR_bad h0))
  obtain ⟨x, hx⟩ : ∃ x, layE p.er base = x := ⟨_, rfl⟩
  have HX := Lib.hid hx
  have hx0 : (x != 0) = true := by rw [hx] at h0; simpa using h0
  have hx1 : (x == x) = true := by simp
  have hx2 : (x != x) = false := by simp
  rw [hx]
  have H0 := Lib.hid h0
  clear hr hx h0
  go_upto_region 2 with (fail)
  have kL := Blk.new w1 30 #[.slice (l).fa 0 (l).fc, .slice (l).na 0 (l).nc, .slice (l).ca 0 (l).cc, .int .i64 0, .int .i64 0, .int .i64 0, .int .i64 0, .int .i64 0, .int .i64 0, .int .i64 0, .int .i64 0, .int .i64 0, .int .i64 0, .int .i64 0, .int .i64 0]
  have hb2 : Below w1.heap.size w1 (w1.alloc (.cells #[.slice (l).fa 0 (l).fc, .slice (l).na 0 (l).nc, .slice (l).ca 0 (l).cc, .int .i64 0, .int .i64 0, .int .i64 0, .int .i64 0, .int .i64 0, .int .i64 0, .int .i64 0, .int .i64 0, .int .i64 0, .int .i64 0, .int .i64 0, .int .i64 0] 30)) := by (repeat' (first | exact Below.refl _ _ | assumption | refine Below.setCell ?_ (by first | omega | exact Below.size (by assumption) | (simp; done) | (simp; omega)) _ | refine Below.alloc ?_ (by first | omega | exact Below.size (by assumption) | (simp; done) | (simp; omega)) _ | refine Below.drew ?_ | refine below_drewN ?_ _))
  replace kP := kP.all hb2
  replace hA := hA.all hb2
  replace hl := hl.keep hb2 hb2.size
  replace hb := hb.trans (hb2.mono hb.size)
  obtain ⟨gL, hgL⟩ : ∃ g, g = w1.heap.size := ⟨_, rfl⟩
  obtain ⟨W2, hW2⟩ : ∃ W', W' = w1.alloc (.cells #[.slice (l).fa 0 (l).fc, .slice (l).na 0 (l).nc, .slice (l).ca 0 (l).cc, .int .i64 0, .int .i64 0, .int .i64 0, .int .i64 0, .int .i64 0, .int .i64 0, .int .i64 0, .int .i64 0, .int .i64 0, .int .i64 0, .int .i64 0, .int .i64 0] 30) := ⟨_, rfl⟩
  rw [← hgL] at kL ⊢
  rw [← hW2] at kL kP hA hl hb ⊢
  clear hW2 hgL hb2
  have p0 := kP.cell 0
  have p1 := kP.cell 1
  go_wp2_with fail
  clear p0 p1
  refine (refCheck_any p W2 hA).mono ?_
  rintro e w3 ⟨rfl, hb3⟩
  (replace kP := kP.all hb3; replace kL := kL.all hb3; replace hA := hA.all hb3; replace hl := hl.keep hb3 (hb3).size; replace hb := hb.trans ((hb3).mono hb.size))
  clear hb3
  rw [hc]
  have hx3 : x = 3 := by rw [← HX.out]; unfold layE; rw [if_neg (by simp [hc]), if_pos (by omega)]
  subst hx3
  have q1 : decide (base < 0) = false := decide_eq_false (by omega)
  have q2 : decide ((65535 : Int) < base) = true := decide_eq_true hbase
  clear hc h1 hbase
  go_upto_region 8 with (fail)
  have kW := Blk.new w3 30 #[.slice none 0 0, .slice none 0 0, .slice none 0 0, .int .i64 0, .int .i64 0, .int .i64 0, .int .i64 0, .int .i64 0, .int .i64 0, .int .i64 0, .int .i64 0, .int .i64 0, .int .i64 0, .int .i64 0, .int .i64 0]
  have hbr : Below w3.heap.size w3 (w3.alloc (.cells #[.slice none 0 0, .slice none 0 0, .slice none 0 0, .int .i64 0, .int .i64 0, .int .i64 0, .int .i64 0, .int .i64 0, .int .i64 0, .int .i64 0, .int .i64 0, .int .i64 0, .int .i64 0, .int .i64 0, .int .i64 0] 30)) := by (repeat' (first | exact Below.refl _ _ | assumption | refine Below.setCell ?_ (by first | omega | exact Below.size (by assumption) | (simp; done) | (simp; omega)) _ | refine Below.alloc ?_ (by first | omega | exact Below.size (by assumption) | (simp; done) | (simp; omega)) _ | refine Below.drew ?_ | refine below_drewN ?_ _))
  obtain ⟨W9, hW9⟩ : ∃ W', W' = w3.alloc (.cells #[.slice none 0 0, .slice none 0 0, .slice none 0 0, .int .i64 0, .int .i64 0, .int .i64 0, .int .i64 0, .int .i64 0, .int .i64 0, .int .i64 0, .int .i64 0, .int .i64 0, .int .i64 0, .int .i64 0, .int .i64 0] 30) := ⟨_, rfl⟩
  obtain ⟨gR, hgR⟩ : ∃ g, g = w3.heap.size := ⟨_, rfl⟩
  rw [← hgR] at kW ⊢
  rw [← hW9] at kW hbr ⊢
  clear hW9 hgR
  (replace kP := kP.all hbr; replace kL := kL.all hbr; replace hA := hA.all hbr; replace hl := hl.keep hbr (hbr).size; replace hb := hb.trans ((hbr).mono hb.size))
  clear hbr
  obtain ⟨m, hmz⟩ : ∃ m : LyM, m = ⟨.zero, none, 0, none, 0, none, 0⟩ := ⟨_, rfl⟩
  have hm : m.At W9 W9.heap.size := by rw [hmz]; exact ⟨Reads.none_, Reads.none_, Reads.none_⟩
  have HMR : Hid (m.r = .zero) := by show _ = _; rw [hmz]
  rw [show #[Value.slice none 0 0, .slice none 0 0, .slice none 0 0, .int .i64 0, .int .i64 0, .int .i64 0, .int .i64 0, .int .i64 0, .int .i64 0, .int .i64 0, .int .i64 0, .int .i64 0, .int .i64 0, .int .i64 0, .int .i64 0] = #[.slice (m).fa 0 (m).fc, .slice (m).na 0 (m).nc, .slice (m).ca 0 (m).cc, .int .i64 0, .int .i64 0, .int .i64 0, .int .i64 0, .int .i64 0, .int .i64 0, .int .i64 0, .int .i64 0, .int .i64 0, .int .i64 0, .int .i64 0, .int .i64 0] by rw [hmz]] at kW
  clear hmz
  go_wp2_with fail
  refine (laid_any W9).mono ?_
  rintro e w6 ⟨rfl, hb6⟩
  (replace kP := kP.all hb6; replace kL := kL.all hb6; replace hA := hA.all hb6; replace hl := hl.keep hb6 (hb6).size; replace hb := hb.trans ((hb6).mono hb.size))
  (replace kW := kW.all hb6; replace hm := hm.keep hb6 (hb6).size)
  clear hb6
  (have q_0 := (kL).cell 0; have q_1 := (kL).cell 1; have q_2 := (kL).cell 2; have q_3 := (kL).cell 3; have q_4 := (kL).cell 4; have q_5 := (kL).cell 5; have q_6 := (kL).cell 6; have q_7 := (kL).cell 7; have q_8 := (kL).cell 8; have q_9 := (kL).cell 9; have q_10 := (kL).cell 10; have q_11 := (kL).cell 11; have q_12 := (kL).cell 12; have q_13 := (kL).cell 13; have q_14 := (kL).cell 14)
  (have r_0 := (kW).cell 0; have r_1 := (kW).cell 1; have r_2 := (kW).cell 2; have r_3 := (kW).cell 3; have r_4 := (kW).cell 4; have r_5 := (kW).cell 5; have r_6 := (kW).cell 6; have r_7 := (kW).cell 7; have r_8 := (kW).cell 8; have r_9 := (kW).cell 9; have r_10 := (kW).cell 10; have r_11 := (kW).cell 11; have r_12 := (kW).cell 12; have r_13 := (kW).cell 13; have r_14 := (kW).cell 14)
  have HS := Lib.hid (sameLay_bad l m w6 hl hm HR.out HMR.out)
  go_wp2_with fail
  refine HS.out.mono ?_
  rintro e w7 ⟨rfl, hb7⟩
  (replace kP := kP.all hb7; replace kL := kL.all hb7; replace hA := hA.all hb7; replace hl := hl.keep hb7 (hb7).size; replace hb := hb.trans ((hb7).mono hb.size))
  (replace kW := kW.all hb7; replace hm := hm.keep hb7 (hb7).size)
  clear hb7 HS q_0 q_1 q_2 q_3 q_4 q_5 q_6 q_7 q_8 q_9 q_10 q_11 q_12 q_13 q_14 r_0 r_1 r_2 r_3 r_4 r_5 r_6 r_7 r_8 r_9 r_10 r_11 r_12 r_13 r_14
  go_wp2_with fail
  refine (laid_any w7).mono ?_
  rintro e w8 ⟨rfl, hb8⟩
  (replace kP := kP.all hb8; replace kL := kL.all hb8; replace hA := hA.all hb8; replace hl := hl.keep hb8 (hb8).size; replace hb := hb.trans ((hb8).mono hb.size))
  (replace kW := kW.all hb8; replace hm := hm.keep hb8 (hb8).size)
  clear hb8
  (have q_0 := (kL).cell 0; have q_1 := (kL).cell 1; have q_2 := (kL).cell 2; have q_3 := (kL).cell 3; have q_4 := (kL).cell 4; have q_5 := (kL).cell 5; have q_6 := (kL).cell 6; have q_7 := (kL).cell 7; have q_8 := (kL).cell 8; have q_9 := (kL).cell 9; have q_10 := (kL).cell 10; have q_11 := (kL).cell 11; have q_12 := (kL).cell 12; have q_13 := (kL).cell 13; have q_14 := (kL).cell 14)
  (have r_0 := (kW).cell 0; have r_1 := (kW).cell 1; have r_2 := (kW).cell 2; have r_3 := (kW).cell 3; have r_4 := (kW).cell 4; have r_5 := (kW).cell 5; have r_6 := (kW).cell 6; have r_7 := (kW).cell 7; have r_8 := (kW).cell 8; have r_9 := (kW).cell 9; have r_10 := (kW).cell 10; have r_11 := (kW).cell 11; have r_12 := (kW).cell 12; have r_13 := (kW).cell 13; have r_14 := (kW).cell 14)
  have HS := Lib.hid (sameLay_bad l m w8 hl hm HR.out HMR.out)
  go_wp2_with fail
  refine HS.out.mono ?_
  rintro e w10 ⟨rfl, hb10⟩
  (replace kP := kP.all hb10; replace kL := kL.all hb10; replace hA := hA.all hb10; replace hl := hl.keep hb10 (hb10).size; replace hb := hb.trans ((hb10).mono hb.size))
  clear hb10
  go_wp2
  go_ret
  exact ⟨rfl, hb⟩

set_option maxHeartbeats 20000000 in
set_option maxRecDepth 100000 in
theorem layoutLays_ck (p : PtM) (base : Int) (s : ByteArray) (w : World) (h : p.At w w.heap.size) (hcap : p.frs.length ≤ p.fc) (h0 : layE p.er base ≠ 0) (hc : ckPart p.er ≠ 0) :
    Calls Tryd.prog 3 #[.agg #[.slice p.fa p.frs.length p.fc, .slice p.da p.dfs.length p.dc], .int .i64 base, .string s] w fun e w' => e = .returned (.bool true) ∧ Below w.heap.size w w' := by
  have kP := Blk.new w 25 #[.slice p.fa p.frs.length p.fc, .slice p.da p.dfs.length p.dc]
  have hb : Below w.heap.size w (w.alloc (.cells #[.slice (p).fa (p).frs.length (p).fc, .slice (p).da (p).dfs.length (p).dc] 25)) := by (repeat' (first | exact Below.refl _ _ | assumption | refine Below.setCell ?_ (by first | omega | exact Below.size (by assumption) | (simp; done) | (simp; omega)) _ | refine Below.alloc ?_ (by first | omega | exact Below.size (by assumption) | (simp; done) | (simp; omega)) _ | refine Below.drew ?_ | refine below_drewN ?_ _))
  have hA := h.all hb
  have HCAP := Lib.hid hcap
  clear h hcap
  go_enter Tryd.func3, Tryd.ntmps3
  go_wp2_with fail
  obtain ⟨gP, hgP⟩ : ∃ g, g = w.heap.size := ⟨_, rfl⟩
  obtain ⟨W, hW⟩ : ∃ W, W = w.alloc (.cells #[.slice (p).fa (p).frs.length (p).fc, .slice (p).da (p).dfs.length (p).dc] 25) := ⟨_, rfl⟩
  rw [show Blk (w.alloc (.cells #[.slice (p).fa (p).frs.length (p).fc, .slice (p).da (p).dfs.length (p).dc] 25)) w.heap.size = Blk W gP by rw [hW, hgP]] at kP
  rw [← hgP]
  rw [← hW] at hb hA ⊢
  clear hW hgP
  refine (lay_any p base W hA).mono ?_
  rintro e w1 ⟨l, rfl, hr, hl, hb1⟩
  replace kP := kP.all hb1
  replace hA := hA.all hb1
  replace hb := hb.trans (hb1.mono hb.size)
  clear hb1
  rw [lay_cells_bad hr h0]
  have HR := Lib.hid (hr.trans (layR_bad h0))
  obtain ⟨x, hx⟩ : ∃ x, layE p.er base = x := ⟨_, rfl⟩
  have HX := Lib.hid hx
  have hx0 : (x != 0) = true := by rw [hx] at h0; simpa using h0
  have hx1 : (x == x) = true := by simp
  have hx2 : (x != x) = false := by simp
  rw [hx]
  have H0 := Lib.hid h0
  clear hr hx h0
  go_upto_region 2 with (fail)
  have kL := Blk.new w1 30 #[.slice (l).fa 0 (l).fc, .slice (l).na 0 (l).nc, .slice (l).ca 0 (l).cc, .int .i64 0, .int .i64 0, .int .i64 0, .int .i64 0, .int .i64 0, .int .i64 0, .int .i64 0, .int .i64 0, .int .i64 0, .int .i64 0, .int .i64 0, .int .i64 0]
  have hb2 : Below w1.heap.size w1 (w1.alloc (.cells #[.slice (l).fa 0 (l).fc, .slice (l).na 0 (l).nc, .slice (l).ca 0 (l).cc, .int .i64 0, .int .i64 0, .int .i64 0, .int .i64 0, .int .i64 0, .int .i64 0, .int .i64 0, .int .i64 0, .int .i64 0, .int .i64 0, .int .i64 0, .int .i64 0] 30)) := by (repeat' (first | exact Below.refl _ _ | assumption | refine Below.setCell ?_ (by first | omega | exact Below.size (by assumption) | (simp; done) | (simp; omega)) _ | refine Below.alloc ?_ (by first | omega | exact Below.size (by assumption) | (simp; done) | (simp; omega)) _ | refine Below.drew ?_ | refine below_drewN ?_ _))
  replace kP := kP.all hb2
  replace hA := hA.all hb2
  replace hl := hl.keep hb2 hb2.size
  replace hb := hb.trans (hb2.mono hb.size)
  obtain ⟨gL, hgL⟩ : ∃ g, g = w1.heap.size := ⟨_, rfl⟩
  obtain ⟨W2, hW2⟩ : ∃ W', W' = w1.alloc (.cells #[.slice (l).fa 0 (l).fc, .slice (l).na 0 (l).nc, .slice (l).ca 0 (l).cc, .int .i64 0, .int .i64 0, .int .i64 0, .int .i64 0, .int .i64 0, .int .i64 0, .int .i64 0, .int .i64 0, .int .i64 0, .int .i64 0, .int .i64 0, .int .i64 0] 30) := ⟨_, rfl⟩
  rw [← hgL] at kL ⊢
  rw [← hW2] at kL kP hA hl hb ⊢
  clear hW2 hgL hb2
  have p0 := kP.cell 0
  have p1 := kP.cell 1
  go_wp2_with fail
  clear p0 p1
  refine (refCheck_any p W2 hA).mono ?_
  rintro e w3 ⟨rfl, hb3⟩
  (replace kP := kP.all hb3; replace kL := kL.all hb3; replace hA := hA.all hb3; replace hl := hl.keep hb3 (hb3).size; replace hb := hb.trans ((hb3).mono hb.size))
  clear hb3
  have hx3 : ckPart p.er = x := by rw [← HX.out]; unfold layE; rw [if_pos (by simpa using hc)]
  rw [hx3]
  have q1 : (x == 0) = false := by rw [hx3] at hc; simpa using hc
  clear hc hx3
  go_upto_region 8 with (fail)
  have kW := Blk.new w3 30 #[.slice none 0 0, .slice none 0 0, .slice none 0 0, .int .i64 0, .int .i64 0, .int .i64 0, .int .i64 0, .int .i64 0, .int .i64 0, .int .i64 0, .int .i64 0, .int .i64 0, .int .i64 0, .int .i64 0, .int .i64 0]
  have hbr : Below w3.heap.size w3 (w3.alloc (.cells #[.slice none 0 0, .slice none 0 0, .slice none 0 0, .int .i64 0, .int .i64 0, .int .i64 0, .int .i64 0, .int .i64 0, .int .i64 0, .int .i64 0, .int .i64 0, .int .i64 0, .int .i64 0, .int .i64 0, .int .i64 0] 30)) := by (repeat' (first | exact Below.refl _ _ | assumption | refine Below.setCell ?_ (by first | omega | exact Below.size (by assumption) | (simp; done) | (simp; omega)) _ | refine Below.alloc ?_ (by first | omega | exact Below.size (by assumption) | (simp; done) | (simp; omega)) _ | refine Below.drew ?_ | refine below_drewN ?_ _))
  obtain ⟨W9, hW9⟩ : ∃ W', W' = w3.alloc (.cells #[.slice none 0 0, .slice none 0 0, .slice none 0 0, .int .i64 0, .int .i64 0, .int .i64 0, .int .i64 0, .int .i64 0, .int .i64 0, .int .i64 0, .int .i64 0, .int .i64 0, .int .i64 0, .int .i64 0, .int .i64 0] 30) := ⟨_, rfl⟩
  obtain ⟨gR, hgR⟩ : ∃ g, g = w3.heap.size := ⟨_, rfl⟩
  rw [← hgR] at kW ⊢
  rw [← hW9] at kW hbr ⊢
  clear hW9 hgR
  (replace kP := kP.all hbr; replace kL := kL.all hbr; replace hA := hA.all hbr; replace hl := hl.keep hbr (hbr).size; replace hb := hb.trans ((hbr).mono hb.size))
  clear hbr
  obtain ⟨m, hmz⟩ : ∃ m : LyM, m = ⟨.zero, none, 0, none, 0, none, 0⟩ := ⟨_, rfl⟩
  have hm : m.At W9 W9.heap.size := by rw [hmz]; exact ⟨Reads.none_, Reads.none_, Reads.none_⟩
  have HMR : Hid (m.r = .zero) := by show _ = _; rw [hmz]
  rw [show #[Value.slice none 0 0, .slice none 0 0, .slice none 0 0, .int .i64 0, .int .i64 0, .int .i64 0, .int .i64 0, .int .i64 0, .int .i64 0, .int .i64 0, .int .i64 0, .int .i64 0, .int .i64 0, .int .i64 0, .int .i64 0] = #[.slice (m).fa 0 (m).fc, .slice (m).na 0 (m).nc, .slice (m).ca 0 (m).cc, .int .i64 0, .int .i64 0, .int .i64 0, .int .i64 0, .int .i64 0, .int .i64 0, .int .i64 0, .int .i64 0, .int .i64 0, .int .i64 0, .int .i64 0, .int .i64 0] by rw [hmz]] at kW
  clear hmz
  go_wp2_with fail
  refine (laid_any W9).mono ?_
  rintro e w6 ⟨rfl, hb6⟩
  (replace kP := kP.all hb6; replace kL := kL.all hb6; replace hA := hA.all hb6; replace hl := hl.keep hb6 (hb6).size; replace hb := hb.trans ((hb6).mono hb.size))
  (replace kW := kW.all hb6; replace hm := hm.keep hb6 (hb6).size)
  clear hb6
  (have q_0 := (kL).cell 0; have q_1 := (kL).cell 1; have q_2 := (kL).cell 2; have q_3 := (kL).cell 3; have q_4 := (kL).cell 4; have q_5 := (kL).cell 5; have q_6 := (kL).cell 6; have q_7 := (kL).cell 7; have q_8 := (kL).cell 8; have q_9 := (kL).cell 9; have q_10 := (kL).cell 10; have q_11 := (kL).cell 11; have q_12 := (kL).cell 12; have q_13 := (kL).cell 13; have q_14 := (kL).cell 14)
  (have r_0 := (kW).cell 0; have r_1 := (kW).cell 1; have r_2 := (kW).cell 2; have r_3 := (kW).cell 3; have r_4 := (kW).cell 4; have r_5 := (kW).cell 5; have r_6 := (kW).cell 6; have r_7 := (kW).cell 7; have r_8 := (kW).cell 8; have r_9 := (kW).cell 9; have r_10 := (kW).cell 10; have r_11 := (kW).cell 11; have r_12 := (kW).cell 12; have r_13 := (kW).cell 13; have r_14 := (kW).cell 14)
  have HS := Lib.hid (sameLay_bad l m w6 hl hm HR.out HMR.out)
  go_wp2_with fail
  refine HS.out.mono ?_
  rintro e w7 ⟨rfl, hb7⟩
  (replace kP := kP.all hb7; replace kL := kL.all hb7; replace hA := hA.all hb7; replace hl := hl.keep hb7 (hb7).size; replace hb := hb.trans ((hb7).mono hb.size))
  (replace kW := kW.all hb7; replace hm := hm.keep hb7 (hb7).size)
  clear hb7 HS q_0 q_1 q_2 q_3 q_4 q_5 q_6 q_7 q_8 q_9 q_10 q_11 q_12 q_13 q_14 r_0 r_1 r_2 r_3 r_4 r_5 r_6 r_7 r_8 r_9 r_10 r_11 r_12 r_13 r_14
  go_wp2_with fail
  refine (laid_any w7).mono ?_
  rintro e w8 ⟨rfl, hb8⟩
  (replace kP := kP.all hb8; replace kL := kL.all hb8; replace hA := hA.all hb8; replace hl := hl.keep hb8 (hb8).size; replace hb := hb.trans ((hb8).mono hb.size))
  (replace kW := kW.all hb8; replace hm := hm.keep hb8 (hb8).size)
  clear hb8
  (have q_0 := (kL).cell 0; have q_1 := (kL).cell 1; have q_2 := (kL).cell 2; have q_3 := (kL).cell 3; have q_4 := (kL).cell 4; have q_5 := (kL).cell 5; have q_6 := (kL).cell 6; have q_7 := (kL).cell 7; have q_8 := (kL).cell 8; have q_9 := (kL).cell 9; have q_10 := (kL).cell 10; have q_11 := (kL).cell 11; have q_12 := (kL).cell 12; have q_13 := (kL).cell 13; have q_14 := (kL).cell 14)
  (have r_0 := (kW).cell 0; have r_1 := (kW).cell 1; have r_2 := (kW).cell 2; have r_3 := (kW).cell 3; have r_4 := (kW).cell 4; have r_5 := (kW).cell 5; have r_6 := (kW).cell 6; have r_7 := (kW).cell 7; have r_8 := (kW).cell 8; have r_9 := (kW).cell 9; have r_10 := (kW).cell 10; have r_11 := (kW).cell 11; have r_12 := (kW).cell 12; have r_13 := (kW).cell 13; have r_14 := (kW).cell 14)
  have HS := Lib.hid (sameLay_bad l m w8 hl hm HR.out HMR.out)
  go_wp2_with fail
  refine HS.out.mono ?_
  rintro e w10 ⟨rfl, hb10⟩
  (replace kP := kP.all hb10; replace kL := kL.all hb10; replace hA := hA.all hb10; replace hl := hl.keep hb10 (hb10).size; replace hb := hb.trans ((hb10).mono hb.size))
  clear hb10
  go_wp2
  go_ret
  exact ⟨rfl, hb⟩

end Go.Proofs.YtmlomnhjbmocfaaDoor
