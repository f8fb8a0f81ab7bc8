/- ropewalkref.SameLayout: alike layouts are the same. -/
import Derived.Test.YtmlomnhjbmocfaaDoorLayX
import Derived.Test.YtmlomnhjbmocfaaDoorB1
import Derived.ChangeKeysEq
set_option linter.all false
namespace Go.Proofs.YtmlomnhjbmocfaaDoor
open Go.RowKit

theorem six0 (a b c d e f : Int) (w : World) : (part 3 #[.int .i64 a, .int .i64 b, .int .i64 c, .int .i64 d, .int .i64 e, .int .i64 f] (0 * Tryd.prog.cellsOf 3)).run Tryd.prog w = .ok (.int .i64 a) w := by kernel_rfl
theorem six1 (a b c d e f : Int) (w : World) : (part 3 #[.int .i64 a, .int .i64 b, .int .i64 c, .int .i64 d, .int .i64 e, .int .i64 f] (1 * Tryd.prog.cellsOf 3)).run Tryd.prog w = .ok (.int .i64 b) w := by kernel_rfl
theorem six2 (a b c d e f : Int) (w : World) : (part 3 #[.int .i64 a, .int .i64 b, .int .i64 c, .int .i64 d, .int .i64 e, .int .i64 f] (2 * Tryd.prog.cellsOf 3)).run Tryd.prog w = .ok (.int .i64 c) w := by kernel_rfl
theorem six3 (a b c d e f : Int) (w : World) : (part 3 #[.int .i64 a, .int .i64 b, .int .i64 c, .int .i64 d, .int .i64 e, .int .i64 f] (3 * Tryd.prog.cellsOf 3)).run Tryd.prog w = .ok (.int .i64 d) w := by kernel_rfl
theorem six4 (a b c d e f : Int) (w : World) : (part 3 #[.int .i64 a, .int .i64 b, .int .i64 c, .int .i64 d, .int .i64 e, .int .i64 f] (4 * Tryd.prog.cellsOf 3)).run Tryd.prog w = .ok (.int .i64 e) w := by kernel_rfl
theorem six5 (a b c d e f : Int) (w : World) : (part 3 #[.int .i64 a, .int .i64 b, .int .i64 c, .int .i64 d, .int .i64 e, .int .i64 f] (5 * Tryd.prog.cellsOf 3)).run Tryd.prog w = .ok (.int .i64 f) w := by kernel_rfl
theorem six_same (a b c d e f : Int) (w : World) : (Op.equalIn 10000 28 (.agg #[.int .i64 a, .int .i64 b, .int .i64 c, .int .i64 d, .int .i64 e, .int .i64 f]) (.agg #[.int .i64 a, .int .i64 b, .int .i64 c, .int .i64 d, .int .i64 e, .int .i64 f])).run Tryd.prog w = .ok true w := by
  obtain ⟨i, hi⟩ := info_of_underlying (P := Tryd.prog) Tryd.underlying3
  rw [run_equalIn_array (P := Tryd.prog) w 9999 _ _ Tryd.underlying28 hi, show List.range 6 = [0, 1, 2, 3, 4, 5] from rfl]
  simp only [Op.eqItems, Sem.run_bind, six0, six1, six2, six3, six4, six5, Result.andThen_ok, run_equalIn_int w 9998 _ _ _ _ _ Tryd.underlying3, beq_self_eq_true, if_true, Sem.run_pure, Sem.run_ite, Bool.not_true, Bool.false_eq_true, if_false]

set_option maxHeartbeats 8000000 in
set_option maxRecDepth 100000 in
theorem sameLay_same (l m : LyM) (fr : List Nat) (ns : List ByteArray) (cs : List Nat) (x1 x2 x3 x4 x5 y1 y2 y3 y4 y5 : Nat) (w : World) (hl : l.At w w.heap.size) (hm : m.At w w.heap.size)
    (h1 : l.r = ⟨fr, ns, cs, [x1, x2, x3, x4, x5], [y1, y2, y3, y4, y5]⟩) (h2 : m.r = l.r) (hf : fr.length ≤ 9223372036854775807) (hn : ns.length ≤ 9223372036854775807) (hc : cs.length ≤ 9223372036854775807) :
    Calls Tryd.prog 11 #[.agg #[.slice (l).fa fr.length (l).fc, .slice (l).na ns.length (l).nc, .slice (l).ca cs.length (l).cc, .int .i64 0, .int .i64 (x1 : Nat), .int .i64 (x2 : Nat), .int .i64 (x3 : Nat), .int .i64 (x4 : Nat), .int .i64 (x5 : Nat), .int .i64 0, .int .i64 (y1 : Nat), .int .i64 (y2 : Nat), .int .i64 (y3 : Nat), .int .i64 (y4 : Nat), .int .i64 (y5 : Nat)], .agg #[.slice (m).fa fr.length (m).fc, .slice (m).na ns.length (m).nc, .slice (m).ca cs.length (m).cc, .int .i64 0, .int .i64 (x1 : Nat), .int .i64 (x2 : Nat), .int .i64 (x3 : Nat), .int .i64 (x4 : Nat), .int .i64 (x5 : Nat), .int .i64 0, .int .i64 (y1 : Nat), .int .i64 (y2 : Nat), .int .i64 (y3 : Nat), .int .i64 (y4 : Nat), .int .i64 (y5 : Nat)]] w fun e w' => e = .returned (.bool true) ∧ Below w.heap.size w w' := by
  have kX := (Blk.new w 30 #[.slice (l).fa fr.length (l).fc, .slice (l).na ns.length (l).nc, .slice (l).ca cs.length (l).cc, .int .i64 0, .int .i64 (x1 : Nat), .int .i64 (x2 : Nat), .int .i64 (x3 : Nat), .int .i64 (x4 : Nat), .int .i64 (x5 : Nat), .int .i64 0, .int .i64 (y1 : Nat), .int .i64 (y2 : Nat), .int .i64 (y3 : Nat), .int .i64 (y4 : Nat), .int .i64 (y5 : Nat)]).alloc (.cells #[.slice (m).fa fr.length (m).fc, .slice (m).na ns.length (m).nc, .slice (m).ca cs.length (m).cc, .int .i64 0, .int .i64 (x1 : Nat), .int .i64 (x2 : Nat), .int .i64 (x3 : Nat), .int .i64 (x4 : Nat), .int .i64 (x5 : Nat), .int .i64 0, .int .i64 (y1 : Nat), .int .i64 (y2 : Nat), .int .i64 (y3 : Nat), .int .i64 (y4 : Nat), .int .i64 (y5 : Nat)] 30)
  have kY := Blk.new' (w.alloc (.cells #[.slice (l).fa fr.length (l).fc, .slice (l).na ns.length (l).nc, .slice (l).ca cs.length (l).cc, .int .i64 0, .int .i64 (x1 : Nat), .int .i64 (x2 : Nat), .int .i64 (x3 : Nat), .int .i64 (x4 : Nat), .int .i64 (x5 : Nat), .int .i64 0, .int .i64 (y1 : Nat), .int .i64 (y2 : Nat), .int .i64 (y3 : Nat), .int .i64 (y4 : Nat), .int .i64 (y5 : Nat)] 30)) 30 #[.slice (m).fa fr.length (m).fc, .slice (m).na ns.length (m).nc, .slice (m).ca cs.length (m).cc, .int .i64 0, .int .i64 (x1 : Nat), .int .i64 (x2 : Nat), .int .i64 (x3 : Nat), .int .i64 (x4 : Nat), .int .i64 (x5 : Nat), .int .i64 0, .int .i64 (y1 : Nat), .int .i64 (y2 : Nat), .int .i64 (y3 : Nat), .int .i64 (y4 : Nat), .int .i64 (y5 : Nat)] (g := w.heap.size + 1) (by simp)
  have hB : Below w.heap.size w ((w.alloc (.cells #[.slice (l).fa fr.length (l).fc, .slice (l).na ns.length (l).nc, .slice (l).ca cs.length (l).cc, .int .i64 0, .int .i64 (x1 : Nat), .int .i64 (x2 : Nat), .int .i64 (x3 : Nat), .int .i64 (x4 : Nat), .int .i64 (x5 : Nat), .int .i64 0, .int .i64 (y1 : Nat), .int .i64 (y2 : Nat), .int .i64 (y3 : Nat), .int .i64 (y4 : Nat), .int .i64 (y5 : Nat)] 30)).alloc (.cells #[.slice (m).fa fr.length (m).fc, .slice (m).na ns.length (m).nc, .slice (m).ca cs.length (m).cc, .int .i64 0, .int .i64 (x1 : Nat), .int .i64 (x2 : Nat), .int .i64 (x3 : Nat), .int .i64 (x4 : Nat), .int .i64 (x5 : Nat), .int .i64 0, .int .i64 (y1 : Nat), .int .i64 (y2 : Nat), .int .i64 (y3 : Nat), .int .i64 (y4 : Nat), .int .i64 (y5 : Nat)] 30)) := by (repeat' (first | exact Below.refl _ _ | assumption | refine Below.setCell ?_ (by first | omega | exact Below.size (by assumption) | (simp; done) | (simp; omega)) _ | refine Below.alloc ?_ (by first | omega | exact Below.size (by assumption) | (simp; done) | (simp; omega)) _ | refine Below.drew ?_ | refine below_drewN ?_ _))
  obtain ⟨hlf, hln, hlc⟩ := hl.keep hB hB.size
  obtain ⟨hmf, hmn, hmc⟩ := hm.keep hB hB.size
  rw [h2] at hmf hmn hmc
  rw [h1] at hlf hln hlc hmf hmn hmc
  dsimp only at hlf hln hlc hmf hmn hmc
  clear hl hm h1 h2
  go_enter Tryd.func11, Tryd.ntmps11
  go_upto_region 1 with (fail)
  obtain ⟨W, hW⟩ : ∃ W', W' = ((w.alloc (.cells #[.slice (l).fa fr.length (l).fc, .slice (l).na ns.length (l).nc, .slice (l).ca cs.length (l).cc, .int .i64 0, .int .i64 (x1 : Nat), .int .i64 (x2 : Nat), .int .i64 (x3 : Nat), .int .i64 (x4 : Nat), .int .i64 (x5 : Nat), .int .i64 0, .int .i64 (y1 : Nat), .int .i64 (y2 : Nat), .int .i64 (y3 : Nat), .int .i64 (y4 : Nat), .int .i64 (y5 : Nat)] 30)).alloc (.cells #[.slice (m).fa fr.length (m).fc, .slice (m).na ns.length (m).nc, .slice (m).ca cs.length (m).cc, .int .i64 0, .int .i64 (x1 : Nat), .int .i64 (x2 : Nat), .int .i64 (x3 : Nat), .int .i64 (x4 : Nat), .int .i64 (x5 : Nat), .int .i64 0, .int .i64 (y1 : Nat), .int .i64 (y2 : Nat), .int .i64 (y3 : Nat), .int .i64 (y4 : Nat), .int .i64 (y5 : Nat)] 30)) := ⟨_, rfl⟩
  obtain ⟨gY, hgY⟩ : ∃ g, g = w.heap.size + 1 := ⟨_, rfl⟩
  obtain ⟨gX, hgX⟩ : ∃ g, g = w.heap.size := ⟨_, rfl⟩
  rw [← hgY] at kY ⊢
  rw [← hgX] at kX ⊢
  rw [← hW] at kX kY hlf hln hlc hmf hmn hmc hB ⊢
  clear hW hgY hgX
  have C1 : Hid (∀ w', Below W.heap.size W w' → Calls Tryd.prog 39 #[.slice l.fa fr.length l.fc, .slice m.fa fr.length m.fc] w' fun e w2 => e = .returned (.bool true) ∧ Below w'.heap.size w' w2) :=
    fun w' h => by
      have hh := equalInts_any l.fa m.fa l.fc m.fc (fr.map Int.ofNat) (fr.map Int.ofNat) w' (by rw [List.length_map]; exact (hlf.below h).more h.size) (by rw [List.length_map]; exact (hmf.below h).more h.size) (by rw [List.length_map]; exact hf)
      rw [List.length_map] at hh
      refine hh.mono ?_
      rintro e w2 ⟨rfl, hb2⟩
      exact ⟨by simp, hb2⟩
  have C2 : Hid (∀ w', Below W.heap.size W w' → Calls Tryd.prog 40 #[.slice l.na ns.length l.nc, .slice m.na ns.length m.nc] w' fun e w2 => e = .returned (.bool true) ∧ Below w'.heap.size w' w2) :=
    fun w' h => (equalStrs_any _ _ _ _ ns ns w' ((hln.below h).more h.size) ((hmn.below h).more h.size) hn).mono (by rintro e w2 ⟨rfl, hb2⟩; exact ⟨by simp, hb2⟩)
  have C3 : Hid (∀ w', Below W.heap.size W w' → Calls Tryd.prog 39 #[.slice l.ca cs.length l.cc, .slice m.ca cs.length m.cc] w' fun e w2 => e = .returned (.bool true) ∧ Below w'.heap.size w' w2) :=
    fun w' h => by
      have hh := equalInts_any l.ca m.ca l.cc m.cc (cs.map Int.ofNat) (cs.map Int.ofNat) w' (by rw [List.length_map]; exact (hlc.below h).more h.size) (by rw [List.length_map]; exact (hmc.below h).more h.size) (by rw [List.length_map]; exact hc)
      rw [List.length_map] at hh
      refine hh.mono ?_
      rintro e w2 ⟨rfl, hb2⟩
      exact ⟨by simp, hb2⟩
  have E1 := six_same 0 x1 x2 x3 x4 x5
  have E2 := six_same 0 y1 y2 y3 y4 y5
  clear hlf hln hlc hmf hmn hmc hf hn hc
  (have q_0 := (kX).cell 0; have q_1 := (kX).cell 1; have q_2 := (kX).cell 2; have q_3 := (kX).cell 3; have q_4 := (kX).cell 4; have q_5 := (kX).cell 5; have q_6 := (kX).cell 6; have q_7 := (kX).cell 7; have q_8 := (kX).cell 8; have q_9 := (kX).cell 9; have q_10 := (kX).cell 10; have q_11 := (kX).cell 11; have q_12 := (kX).cell 12; have q_13 := (kX).cell 13; have q_14 := (kX).cell 14)
  (have r_0 := (kY).cell 0; have r_1 := (kY).cell 1; have r_2 := (kY).cell 2; have r_3 := (kY).cell 3; have r_4 := (kY).cell 4; have r_5 := (kY).cell 5; have r_6 := (kY).cell 6; have r_7 := (kY).cell 7; have r_8 := (kY).cell 8; have r_9 := (kY).cell 9; have r_10 := (kY).cell 10; have r_11 := (kY).cell 11; have r_12 := (kY).cell 12; have r_13 := (kY).cell 13; have r_14 := (kY).cell 14)
  go_wp2_with fail
  refine (C1.out W (Below.refl _ _)).mono ?_
  rintro e w1 ⟨rfl, hb1⟩
  ((have kXn := kX.all hb1); (have kYn := kY.all hb1); (clear q_0 q_1 q_2 q_3 q_4 q_5 q_6 q_7 q_8 q_9 q_10 q_11 q_12 q_13 q_14 r_0 r_1 r_2 r_3 r_4 r_5 r_6 r_7 r_8 r_9 r_10 r_11 r_12 r_13 r_14); (have q_0 := (kXn).cell 0; have q_1 := (kXn).cell 1; have q_2 := (kXn).cell 2; have q_3 := (kXn).cell 3; have q_4 := (kXn).cell 4; have q_5 := (kXn).cell 5; have q_6 := (kXn).cell 6; have q_7 := (kXn).cell 7; have q_8 := (kXn).cell 8; have q_9 := (kXn).cell 9; have q_10 := (kXn).cell 10; have q_11 := (kXn).cell 11; have q_12 := (kXn).cell 12; have q_13 := (kXn).cell 13; have q_14 := (kXn).cell 14); (have r_0 := (kYn).cell 0; have r_1 := (kYn).cell 1; have r_2 := (kYn).cell 2; have r_3 := (kYn).cell 3; have r_4 := (kYn).cell 4; have r_5 := (kYn).cell 5; have r_6 := (kYn).cell 6; have r_7 := (kYn).cell 7; have r_8 := (kYn).cell 8; have r_9 := (kYn).cell 9; have r_10 := (kYn).cell 10; have r_11 := (kYn).cell 11; have r_12 := (kYn).cell 12; have r_13 := (kYn).cell 13; have r_14 := (kYn).cell 14); (clear kXn kYn); go_wp2_with fail)
  refine (C2.out w1 hb1).mono ?_
  rintro e w2 ⟨rfl, hb2'⟩
  have hb2 := hb1.trans (hb2'.mono hb1.size)
  clear hb1 hb2'
  ((have kXn := kX.all hb2); (have kYn := kY.all hb2); (clear q_0 q_1 q_2 q_3 q_4 q_5 q_6 q_7 q_8 q_9 q_10 q_11 q_12 q_13 q_14 r_0 r_1 r_2 r_3 r_4 r_5 r_6 r_7 r_8 r_9 r_10 r_11 r_12 r_13 r_14); (have q_0 := (kXn).cell 0; have q_1 := (kXn).cell 1; have q_2 := (kXn).cell 2; have q_3 := (kXn).cell 3; have q_4 := (kXn).cell 4; have q_5 := (kXn).cell 5; have q_6 := (kXn).cell 6; have q_7 := (kXn).cell 7; have q_8 := (kXn).cell 8; have q_9 := (kXn).cell 9; have q_10 := (kXn).cell 10; have q_11 := (kXn).cell 11; have q_12 := (kXn).cell 12; have q_13 := (kXn).cell 13; have q_14 := (kXn).cell 14); (have r_0 := (kYn).cell 0; have r_1 := (kYn).cell 1; have r_2 := (kYn).cell 2; have r_3 := (kYn).cell 3; have r_4 := (kYn).cell 4; have r_5 := (kYn).cell 5; have r_6 := (kYn).cell 6; have r_7 := (kYn).cell 7; have r_8 := (kYn).cell 8; have r_9 := (kYn).cell 9; have r_10 := (kYn).cell 10; have r_11 := (kYn).cell 11; have r_12 := (kYn).cell 12; have r_13 := (kYn).cell 13; have r_14 := (kYn).cell 14); (clear kXn kYn); go_wp2_with fail)
  refine (C3.out w2 hb2).mono ?_
  rintro e w3 ⟨rfl, hb3'⟩
  have hb3 := hb2.trans (hb3'.mono hb2.size)
  clear hb2 hb3'
  ((have kXn := kX.all hb3); (have kYn := kY.all hb3); (clear q_0 q_1 q_2 q_3 q_4 q_5 q_6 q_7 q_8 q_9 q_10 q_11 q_12 q_13 q_14 r_0 r_1 r_2 r_3 r_4 r_5 r_6 r_7 r_8 r_9 r_10 r_11 r_12 r_13 r_14); (have q_0 := (kXn).cell 0; have q_1 := (kXn).cell 1; have q_2 := (kXn).cell 2; have q_3 := (kXn).cell 3; have q_4 := (kXn).cell 4; have q_5 := (kXn).cell 5; have q_6 := (kXn).cell 6; have q_7 := (kXn).cell 7; have q_8 := (kXn).cell 8; have q_9 := (kXn).cell 9; have q_10 := (kXn).cell 10; have q_11 := (kXn).cell 11; have q_12 := (kXn).cell 12; have q_13 := (kXn).cell 13; have q_14 := (kXn).cell 14); (have r_0 := (kYn).cell 0; have r_1 := (kYn).cell 1; have r_2 := (kYn).cell 2; have r_3 := (kYn).cell 3; have r_4 := (kYn).cell 4; have r_5 := (kYn).cell 5; have r_6 := (kYn).cell 6; have r_7 := (kYn).cell 7; have r_8 := (kYn).cell 8; have r_9 := (kYn).cell 9; have r_10 := (kYn).cell 10; have r_11 := (kYn).cell 11; have r_12 := (kYn).cell 12; have r_13 := (kYn).cell 13; have r_14 := (kYn).cell 14); (clear kXn kYn); go_wp2_with fail)
  go_ret
  exact ⟨rfl, hB.trans (hb3.mono hB.size)⟩
end Go.Proofs.YtmlomnhjbmocfaaDoor
