/- ropewalkref.LaidOut: what it computes, where all fits. -/
import Derived.Test.YtmlomnhjbmocfaaDoorRefLayP
set_option linter.all false
namespace Go.Proofs.YtmlomnhjbmocfaaDoor
open Go.RowKit

set_option maxHeartbeats 40000000 in
set_option maxRecDepth 100000 in
theorem laidOut_fits (p : PtM) (base : Nat) (w : World) (h : p.At w w.heap.size) (hcap : p.frs.length ≤ p.fc) (hc : ckPart p.er = 0) (hbase : base < 65536) (hxx : ¬65536 < (layEnd p.er base).at_) :
    Calls Tryd.prog 9 #[.agg #[.slice p.fa p.frs.length p.fc, .slice p.da p.dfs.length p.dc], .int .i64 base] w (LayFar w p.er base) := by
  have HXX := Lib.hid hxx
  clear hxx
  have hs := small_of hc
  have hn := hs.fr
  have hmk := make_to p.frs.length (by omega)
  have HC := Lib.hid hc
  unfold LayFar
  have hb0 : Below w.heap.size w ((w.alloc (.cells #[.slice (p).fa (p).frs.length (p).fc, .slice (p).da (p).dfs.length (p).dc] 25)).alloc (.cells #[.slice none 0 0, .slice none 0 0, .slice none 0 0, .int .i64 0, .int .i64 0, .int .i64 0, .int .i64 0, .int .i64 0, .int .i64 0, .int .i64 0, .int .i64 0, .int .i64 0, .int .i64 0, .int .i64 0, .int .i64 0] 30)) := by (repeat' (first | exact Below.refl _ _ | assumption | refine Below.setCell ?_ (by first | omega | exact Below.size (by assumption) | (simp; done) | (simp; omega)) _ | refine Below.alloc ?_ (by first | omega | exact Below.size (by assumption) | (simp; done) | (simp; omega)) _ | refine Below.drew ?_ | refine below_drewN ?_ _))
  have hP : Blk ((w.alloc (.cells #[.slice (p).fa (p).frs.length (p).fc, .slice (p).da (p).dfs.length (p).dc] 25)).alloc (.cells #[.slice none 0 0, .slice none 0 0, .slice none 0 0, .int .i64 0, .int .i64 0, .int .i64 0, .int .i64 0, .int .i64 0, .int .i64 0, .int .i64 0, .int .i64 0, .int .i64 0, .int .i64 0, .int .i64 0, .int .i64 0] 30)) w.heap.size 25 #[.slice p.fa p.frs.length p.fc, .slice p.da p.dfs.length p.dc] := (Blk.new' _ _ _ rfl).alloc _
  have hR : Blk ((w.alloc (.cells #[.slice (p).fa (p).frs.length (p).fc, .slice (p).da (p).dfs.length (p).dc] 25)).alloc (.cells #[.slice none 0 0, .slice none 0 0, .slice none 0 0, .int .i64 0, .int .i64 0, .int .i64 0, .int .i64 0, .int .i64 0, .int .i64 0, .int .i64 0, .int .i64 0, .int .i64 0, .int .i64 0, .int .i64 0, .int .i64 0] 30)) (w.heap.size + 1) 30 (lcells (.slice none 0 0) (.slice none 0 0) (.slice none 0 0) [0, 0, 0, 0, 0, 0] [0, 0, 0, 0, 0, 0]).toArray := Blk.new' _ _ _ (by simp)
  have h1 := h.all hb0
  go_enter Tryd.func9, Tryd.ntmps9
  go_upto_region 1 with (fail)
  obtain ⟨w1, hW0⟩ : ∃ W, W = ((w.alloc (.cells #[.slice (p).fa (p).frs.length (p).fc, .slice (p).da (p).dfs.length (p).dc] 25)).alloc (.cells #[.slice none 0 0, .slice none 0 0, .slice none 0 0, .int .i64 0, .int .i64 0, .int .i64 0, .int .i64 0, .int .i64 0, .int .i64 0, .int .i64 0, .int .i64 0, .int .i64 0, .int .i64 0, .int .i64 0, .int .i64 0] 30)) := ⟨_, rfl⟩
  have hz0 : w1.heap.size = w.heap.size + 2 := by rw [hW0]; simp
  rw [← hW0] at hP hR hb0 h1 ⊢
  clear hW0
  obtain ⟨gR, hgR⟩ : ∃ g, g = w.heap.size + 1 := ⟨_, rfl⟩
  rw [← hgR] at hR ⊢
  have kP := hP
  have kR := hR
  have hA := h1
  have hb := hb0
  have p0 := kP.cell 0
  have HB := Lib.hid hbase
  have hgR1 : w.heap.size ≤ gR := by omega
  have hz1 : w.heap.size + 2 ≤ w1.heap.size := by omega
  clear hc hP hR h1 h hb0 hgR hbase hz0
  have hF := (Blk.new w1 3 (intsV (List.replicate p.frs.length 0)).toArray).alloc (Obj.cells #[.slice (some ⟨w1.heap.size, 0, none⟩) p.frs.length p.frs.length, .slice none 0 0, .slice none 0 0, .int .i64 0, .int .i64 0, .int .i64 0, .int .i64 0, .int .i64 0, .int .i64 0, .int .i64 0, .int .i64 0, .int .i64 0, .int .i64 0, .int .i64 0, .int .i64 0] 30)
  have hO := Blk.new' (w1.alloc (.cells (intsV (List.replicate p.frs.length 0)).toArray 3)) 30 (lcells (.slice (some ⟨w1.heap.size, 0, none⟩) p.frs.length p.frs.length) (.slice none 0 0) (.slice none 0 0) [0, 0, 0, 0, 0, 0] [0, 0, 0, 0, 0, 0]).toArray (g := w1.heap.size + 1) (by simp)
  have kP0 := (kP.alloc (.cells (intsV (List.replicate p.frs.length 0)).toArray 3)).alloc (Obj.cells #[.slice (some ⟨w1.heap.size, 0, none⟩) p.frs.length p.frs.length, .slice none 0 0, .slice none 0 0, .int .i64 0, .int .i64 0, .int .i64 0, .int .i64 0, .int .i64 0, .int .i64 0, .int .i64 0, .int .i64 0, .int .i64 0, .int .i64 0, .int .i64 0, .int .i64 0] 30)
  have kR0 := (kR.alloc (.cells (intsV (List.replicate p.frs.length 0)).toArray 3)).alloc (Obj.cells #[.slice (some ⟨w1.heap.size, 0, none⟩) p.frs.length p.frs.length, .slice none 0 0, .slice none 0 0, .int .i64 0, .int .i64 0, .int .i64 0, .int .i64 0, .int .i64 0, .int .i64 0, .int .i64 0, .int .i64 0, .int .i64 0, .int .i64 0, .int .i64 0, .int .i64 0] 30)
  have hl := lays_of HC.out
  have hll : p.er.frs.length = p.frs.length := by simp [PtM.er]
  have h0 : LayAt w1 ((w1.alloc (.cells (intsV (List.replicate p.frs.length 0)).toArray 3)).alloc (Obj.cells #[.slice (some ⟨w1.heap.size, 0, none⟩) p.frs.length p.frs.length, .slice none 0 0, .slice none 0 0, .int .i64 0, .int .i64 0, .int .i64 0, .int .i64 0, .int .i64 0, .int .i64 0, .int .i64 0, .int .i64 0, .int .i64 0, .int .i64 0, .int .i64 0, .int .i64 0] 30)) p.er base (w1.heap.size + 1) 1 (.slice none 0 0) (.slice none 0 0) :=
    ⟨by rw [hll]; exact hO, by show Blk _ _ _ (intsV (frAt p.er.frs base 1 0)).toArray; rw [← frAt_start hl, hll]; exact hF, fun _ => ⟨rfl, rfl⟩, fun h => by omega, fun h => by omega, by (repeat' (first | exact Below.refl _ _ | assumption | refine Below.setCell ?_ (by first | omega | exact Below.size (by assumption) | (simp; done) | (simp; omega)) _ | refine Below.alloc ?_ (by first | omega | exact Below.size (by assumption) | (simp; done) | (simp; omega)) _ | refine Below.drew ?_ | refine below_drewN ?_ _)), by simp⟩
  go_wp2_with fail
  obtain ⟨gO, hgO⟩ : ∃ g, g = w1.heap.size + 1 := ⟨_, rfl⟩
  rw [← hgO] at h0 ⊢
  have HLA := Lib.hid hl
  have HLL := Lib.hid hll
  have hgO' : w1.heap.size < gO := by omega
  clear p0 hll hl hO hF hmk hgO kP0 kR0
  go_loopw [7, 8] (fun at_ i wr => ∃ (s : Nat) (v2 v3 : Value), 1 ≤ s ∧ s ≤ 6 ∧ i = .int .i64 s ∧ at_ = .int .i64 (toN p.er base (s - 1)) ∧ LayAt w1 wr p.er base gO s v2 v3) (fun _ i _ => 6 - (intOf i).toNat)
  case atStart =>
    exact ⟨1, _, _, by omega, by omega, rfl, by rw [toN_other _ _ (by omega)]; rfl, h0⟩
  case round =>
    clear h0
    obtain ⟨s, v2, v3, hs1, hs6, rfl, rfl, hat⟩ := hrel
    rcases Nat.lt_or_ge 5 s with hs5 | hs5
    · obtain rfl : s = 6 := by omega
      have ha : (layEnd p.er base).at_ ≤ 500000 := by
        have h1 := (com_len (comOk_of HC.out) (secEnd p.er.frs base 5) (definedP p.er)).2.2.2
        have h2 := secEnd_le HLA.out base 5
        have h3 := setS_len (p.er.dfs.map Df.name)
        have h4 := hs.df
        have h5 := HB.out
        have e : (p.er.dfs.map Df.name).length = p.dfs.length := by simp [PtM.er]
        have e2 : layEnd p.er base = comAt p.er.dfs (secEnd p.er.frs base 5) (definedP p.er) := rfl
        rw [← e2] at h1
        unfold definedP at h1
        omega
      rw [toN_five]
      have kRw : Blk wr gR 30 #[.slice none 0 0, .slice none 0 0, .slice none 0 0, .int .i64 0, .int .i64 0, .int .i64 0, .int .i64 0, .int .i64 0, .int .i64 0, .int .i64 0, .int .i64 0, .int .i64 0, .int .i64 0, .int .i64 0, .int .i64 0] := kR.below hat.be kR.lt
      obtain ⟨B2, d2, rfl, _, _⟩ := own_form (hat.ns rfl)
      obtain ⟨B3, d3, rfl, _, _⟩ := own_form (hat.cs rfl)
      have hx := HXX.out
      have q5 : decide ((65536 : Int) < ((layEnd p.er base).at_ : Nat)) = false := decide_eq_false (by omega)
      have HX := Lib.hid hx
      clear hx
      have hbr := hb.trans (hat.be.mono hb.size)
      have kOw : Blk wr gO 30 #[(.slice (some ⟨w1.heap.size, 0, none⟩) p.frs.length p.frs.length), (.slice B2 (layEnd p.er base).ns.length d2), (.slice B3 (layEnd p.er base).cs.length d3), (.int .i64 0), (.int .i64 (secFrom p.er.frs base 1 : Nat)), (.int .i64 (secFrom p.er.frs base 2 : Nat)), (.int .i64 (secFrom p.er.frs base 3 : Nat)), (.int .i64 (secFrom p.er.frs base 4 : Nat)), (.int .i64 (secFrom p.er.frs base 5 : Nat)), (.int .i64 0), (.int .i64 (toN p.er base 1 : Nat)), (.int .i64 (toN p.er base 2 : Nat)), (.int .i64 (toN p.er base 3 : Nat)), (.int .i64 (toN p.er base 4 : Nat)), (.int .i64 (toN p.er base 5 : Nat))] := by
        have o := hat.o
        rw [show 6 - 1 = 5 from rfl, sixAt_five, sixAt_five, HLL.out] at o
        exact o
      have hfr := hat.f
      rw [show ((6 : Nat) : Int) = 6 from rfl, frAt_end HLA.out] at hfr
      have hns := hat.ns rfl
      have hcs := hat.cs rfl
      have nns := own_blk_ne hns kRw (by decide)
      have ncs := own_blk_ne hcs kRw (by decide)
      have nfr : some w1.heap.size ≠ some gR := by
        intro e
        injection e with e
        have := kR.lt
        omega
      (have r0 := kRw.cell 0; have g0 := kRw.frozen 0; have r1 := kRw.cell 1; have g1 := kRw.frozen 1; have r2 := kRw.cell 2; have g2 := kRw.frozen 2; have r3 := kRw.cell 3; have g3 := kRw.frozen 3; have r4 := kRw.cell 4; have g4 := kRw.frozen 4; have r5 := kRw.cell 5; have g5 := kRw.frozen 5; have r6 := kRw.cell 6; have g6 := kRw.frozen 6; have r7 := kRw.cell 7; have g7 := kRw.frozen 7; have r8 := kRw.cell 8; have g8 := kRw.frozen 8; have r9 := kRw.cell 9; have g9 := kRw.frozen 9; have r10 := kRw.cell 10; have g10 := kRw.frozen 10; have r11 := kRw.cell 11; have g11 := kRw.frozen 11; have r12 := kRw.cell 12; have g12 := kRw.frozen 12; have r13 := kRw.cell 13; have g13 := kRw.frozen 13; have r14 := kRw.cell 14; have g14 := kRw.frozen 14)
      (have a0 := kOw.cell 0; have a1 := kOw.cell 1; have a2 := kOw.cell 2; have a3 := kOw.cell 3; have a4 := kOw.cell 4; have a5 := kOw.cell 5; have a6 := kOw.cell 6; have a7 := kOw.cell 7; have a8 := kOw.cell 8; have a9 := kOw.cell 9; have a10 := kOw.cell 10; have a11 := kOw.cell 11; have a12 := kOw.cell 12; have a13 := kOw.cell 13; have a14 := kOw.cell 14)
      clear kP kR hA hat kOw
      go_upto_region 38 with (fail)
      go_wp2_with fail
      (obtain ⟨W9, hW9⟩ : ∃ W, W = put15 wr gR (.slice (some ⟨w1.heap.size, 0, none⟩) p.frs.length p.frs.length) (.slice B2 (layEnd p.er base).ns.length d2) (.slice B3 (layEnd p.er base).cs.length d3) (.int .i64 0) (.int .i64 (secFrom p.er.frs base 1 : Nat)) (.int .i64 (secFrom p.er.frs base 2 : Nat)) (.int .i64 (secFrom p.er.frs base 3 : Nat)) (.int .i64 (secFrom p.er.frs base 4 : Nat)) (.int .i64 (secFrom p.er.frs base 5 : Nat)) (.int .i64 0) (.int .i64 (toN p.er base 1 : Nat)) (.int .i64 (toN p.er base 2 : Nat)) (.int .i64 (toN p.er base 3 : Nat)) (.int .i64 (toN p.er base 4 : Nat)) (.int .i64 (toN p.er base 5 : Nat)) := ⟨_, rfl⟩; have kZ := put15_blk (.slice (some ⟨w1.heap.size, 0, none⟩) p.frs.length p.frs.length) (.slice B2 (layEnd p.er base).ns.length d2) (.slice B3 (layEnd p.er base).cs.length d3) (.int .i64 0) (.int .i64 (secFrom p.er.frs base 1 : Nat)) (.int .i64 (secFrom p.er.frs base 2 : Nat)) (.int .i64 (secFrom p.er.frs base 3 : Nat)) (.int .i64 (secFrom p.er.frs base 4 : Nat)) (.int .i64 (secFrom p.er.frs base 5 : Nat)) (.int .i64 0) (.int .i64 (toN p.er base 1 : Nat)) (.int .i64 (toN p.er base 2 : Nat)) (.int .i64 (toN p.er base 3 : Nat)) (.int .i64 (toN p.er base 4 : Nat)) (.int .i64 (toN p.er base 5 : Nat)) kRw; have hB9 := put15_below (.slice (some ⟨w1.heap.size, 0, none⟩) p.frs.length p.frs.length) (.slice B2 (layEnd p.er base).ns.length d2) (.slice B3 (layEnd p.er base).cs.length d3) (.int .i64 0) (.int .i64 (secFrom p.er.frs base 1 : Nat)) (.int .i64 (secFrom p.er.frs base 2 : Nat)) (.int .i64 (secFrom p.er.frs base 3 : Nat)) (.int .i64 (secFrom p.er.frs base 4 : Nat)) (.int .i64 (secFrom p.er.frs base 5 : Nat)) (.int .i64 0) (.int .i64 (toN p.er base 1 : Nat)) (.int .i64 (toN p.er base 2 : Nat)) (.int .i64 (toN p.er base 3 : Nat)) (.int .i64 (toN p.er base 4 : Nat)) (.int .i64 (toN p.er base 5 : Nat)) hbr (by omega : w.heap.size ≤ gR); have hz9 := put15_size (w := wr) (g := gR) (.slice (some ⟨w1.heap.size, 0, none⟩) p.frs.length p.frs.length) (.slice B2 (layEnd p.er base).ns.length d2) (.slice B3 (layEnd p.er base).cs.length d3) (.int .i64 0) (.int .i64 (secFrom p.er.frs base 1 : Nat)) (.int .i64 (secFrom p.er.frs base 2 : Nat)) (.int .i64 (secFrom p.er.frs base 3 : Nat)) (.int .i64 (secFrom p.er.frs base 4 : Nat)) (.int .i64 (secFrom p.er.frs base 5 : Nat)) (.int .i64 0) (.int .i64 (toN p.er base 1 : Nat)) (.int .i64 (toN p.er base 2 : Nat)) (.int .i64 (toN p.er base 3 : Nat)) (.int .i64 (toN p.er base 4 : Nat)) (.int .i64 (toN p.er base 5 : Nat)); have G9 := put15_grown (.slice (some ⟨w1.heap.size, 0, none⟩) p.frs.length p.frs.length) (.slice B2 (layEnd p.er base).ns.length d2) (.slice B3 (layEnd p.er base).cs.length d3) (.int .i64 0) (.int .i64 (secFrom p.er.frs base 1 : Nat)) (.int .i64 (secFrom p.er.frs base 2 : Nat)) (.int .i64 (secFrom p.er.frs base 3 : Nat)) (.int .i64 (secFrom p.er.frs base 4 : Nat)) (.int .i64 (secFrom p.er.frs base 5 : Nat)) (.int .i64 0) (.int .i64 (toN p.er base 1 : Nat)) (.int .i64 (toN p.er base 2 : Nat)) (.int .i64 (toN p.er base 3 : Nat)) (.int .i64 (toN p.er base 4 : Nat)) (.int .i64 (toN p.er base 5 : Nat)) wr gR; rw [← hW9] at kZ hB9 hz9 G9; unfold put15 at hW9; rw [← hW9]; clear hW9; have r0 := kZ.cell 0; have r1 := kZ.cell 1; have r2 := kZ.cell 2; have r3 := kZ.cell 3; have r4 := kZ.cell 4; have r5 := kZ.cell 5; have r6 := kZ.cell 6; have r7 := kZ.cell 7; have r8 := kZ.cell 8; have r9 := kZ.cell 9; have r10 := kZ.cell 10; have r11 := kZ.cell 11; have r12 := kZ.cell 12; have r13 := kZ.cell 13; have r14 := kZ.cell 14)
      have HE : Hid (layE p.er base = 0) := by
        show _ = _
        unfold layE
        rw [if_neg (by simp [HC.out]), if_neg (by have := HB.out; omega), if_neg (by simpa using HX.out)]
      refine bodyPost_ret (v := .tuple #[.agg #[(.slice (some ⟨w1.heap.size, 0, none⟩) p.frs.length p.frs.length), (.slice B2 (layEnd p.er base).ns.length d2), (.slice B3 (layEnd p.er base).cs.length d3), (.int .i64 0), (.int .i64 (secFrom p.er.frs base 1 : Nat)), (.int .i64 (secFrom p.er.frs base 2 : Nat)), (.int .i64 (secFrom p.er.frs base 3 : Nat)), (.int .i64 (secFrom p.er.frs base 4 : Nat)), (.int .i64 (secFrom p.er.frs base 5 : Nat)), (.int .i64 0), (.int .i64 (toN p.er base 1 : Nat)), (.int .i64 (toN p.er base 2 : Nat)), (.int .i64 (toN p.er base 3 : Nat)), (.int .i64 (toN p.er base 4 : Nat)), (.int .i64 (toN p.er base 5 : Nat))], .int .i64 0]) (by simp [results, Tryd.results9, go_sem, r0, r1, r2, r3, r4, r5, r6, r7, r8, r9, r10, r11, r12, r13, r14]) rfl ?_
      have hl1 : (layFr p.er base).length = p.frs.length := by unfold layFr; simp [PtM.er]
      refine ⟨⟨⟨layFr p.er base, (layEnd p.er base).ns, (layEnd p.er base).cs, layFrom p.er base, layTo p.er base⟩, some ⟨w1.heap.size, 0, none⟩, p.frs.length, B2, d2, B3, d3⟩, ?_, ?_, ⟨?_, ?_, ?_⟩, ⟨fun a h => by injection h with h; subst h; show w.heap.size ≤ w1.heap.size; omega, fun a h => by have := own_far hns a h; omega, fun a h => by have := own_far hcs a h; omega⟩, hB9⟩
      · rw [HE.out]
        unfold LyM.cells
        simp only [hl1]
        rfl
      · unfold layR
        rw [if_pos HE.out]
        rfl
      · have h1 := (hfr.grown G9 nfr).reads (size := 1) (n := (layFr p.er base).length) (by simp [intsV, layFr])
        have e : (intsV ((List.range p.er.frs.length).map fun i => (adrOf p.er.frs base i : Int))).toArray.toList = natsV (layFr p.er base) := by
          unfold natsV layFr
          rw [List.map_map]
          rfl
        rw [e] at h1
        exact h1
      · exact Reads.of_own (own_kept hns G9 (.inr nns))
      · exact Reads.of_own (own_kept hcs G9 (.inr ncs))
    · obtain ⟨rfl, rfl⟩ := hat.nil_ hs5
      have a1 := secEnd_le HLA.out base (s - 1)
      have hup : Calls Tryd.prog 35 #[.int .i64 (toN p.er base (s - 1) : Nat), .int .i64 16] wr _ := next_any (toN p.er base (s - 1)) 16 wr (by rw [toN_other _ _ (by omega)]; have := HB.out; omega) (by omega) (by omega)
      rw [show upN (toN p.er base (s - 1)) 16 = secFrom p.er.frs base s by rw [toN_other _ _ (by omega)]; rfl] at hup
      go_wp2_with fail
      refine hup.mono ?_
      rintro e w' ⟨rfl, rfl⟩
      clear hup
      have c3 : w'.cell? ⟨gO, 3 + s, none⟩ = some (.int .i64 0) := (hat.o.cell _).trans (lcells_get3 (sixAt_get _ hs1 hs5))
      have f3 := hat.o.frozen (3 + s)
      have b1 := hat.be.size
      have s1 := hat.sz
      go_upto_region 8 with (fail)
      have hI : LayJn w1 (w'.setCell ⟨gO, 3 + s, none⟩ (.int .i64 (secFrom p.er.frs base s : Nat))) p.er base gO s 0 := by
        have o := hat.o.set_ (3 + s) (.int .i64 (secFrom p.er.frs base s : Nat))
        have e : (lcells (.slice (some ⟨w1.heap.size, 0, none⟩) p.frs.length p.frs.length) (.slice none 0 0) (.slice none 0 0) (sixAt (secFrom p.er.frs base) (s - 1)) (sixAt (toN p.er base) (s - 1))).toArray.setIfInBounds (3 + s) (.int .i64 (secFrom p.er.frs base s : Nat)) =
            (lcells (.slice (some ⟨w1.heap.size, 0, none⟩) p.frs.length p.frs.length) (.slice none 0 0) (.slice none 0 0) (sixAt (secFrom p.er.frs base) s) (sixAt (toN p.er base) (s - 1))).toArray := by
          rw [List.setIfInBounds_toArray, lcells_from (by rw [sixAt_len]; omega), sixAt_put _ hs1 hs5]
        rw [HLL.out] at o
        rw [e] at o
        exact ⟨by rw [HLL.out]; exact o, hat.f.far (by simp only; omega) _, hat.be.setCell (by simp only; omega) _, by simpa [World.setCell] using s1⟩
      have kP2 : Blk (w'.setCell ⟨gO, 3 + s, none⟩ (.int .i64 (secFrom p.er.frs base s : Nat))) w.heap.size 25 #[.slice p.fa p.frs.length p.fc, .slice p.da p.dfs.length p.dc] := (kP.below hat.be kP.lt).far (by simp only; omega) _
      obtain ⟨W2, hW2⟩ : ∃ W, W = w'.setCell ⟨gO, 3 + s, none⟩ (.int .i64 (secFrom p.er.frs base s : Nat)) := ⟨_, rfl⟩
      rw [← hW2] at hI kP2 ⊢
      clear c3 f3 hat hW2 b1 s1 a1
      have p0 := kP2.cell 0
      clear kP2
      go_wp2_with fail
      clear p0
      go_loopw [7, 37] (fun at_ i wr => ∃ k : Nat, k ≤ p.frs.length ∧ i = .int .i64 k ∧ at_ = .int .i64 (posAt p.er.frs s (secFrom p.er.frs base s) k : Nat) ∧ LayJn w1 wr p.er base gO s k) (fun _ i _ => p.frs.length - (intOf i).toNat)
      case atStart => exact ⟨0, Nat.zero_le _, rfl, rfl, hI⟩
      case round =>
        clear hI
        obtain ⟨k, hk, rfl, rfl, hI⟩ := hrel
        by_cases hlt : k < p.frs.length
        · obtain ⟨x, hx⟩ : ∃ x, p.frs[k]? = some x := ⟨_, List.getElem?_eq_getElem hlt⟩
          have hxe : p.er.frs[k]? = some x.f := by simp [PtM.er, hx]
          have hAr := hA.keep hI.be hI.be.size
          obtain ⟨b, off, hfa, bl, c0, c1, c2, c3, c4, c5⟩ := fg_get hAr.fr hx
          have hG := hAr.each x (List.mem_of_getElem? hx)
          rw [hfa]
          go_upto_region 11 with (fail)
          have kX := Blk.new wr 63 #[.int .i64 x.f.sect, .int .i64 x.f.align, .string x.f.group, .slice x.ba x.f.bs.length x.bc, .int .i64 x.f.size, .slice x.ra x.f.rs.length x.rc]
          have hs0 : Below wr.heap.size wr (wr.alloc (.cells #[.int .i64 x.f.sect, .int .i64 x.f.align, .string x.f.group, .slice x.ba x.f.bs.length x.bc, .int .i64 x.f.size, .slice x.ra x.f.rs.length x.rc] 63)) := by (repeat' (first | exact Below.refl _ _ | assumption | refine Below.setCell ?_ (by first | omega | exact Below.size (by assumption) | (simp; done) | (simp; omega)) _ | refine Below.alloc ?_ (by first | omega | exact Below.size (by assumption) | (simp; done) | (simp; omega)) _ | refine Below.drew ?_ | refine below_drewN ?_ _))
          have hI := hI.alloc (.cells #[.int .i64 x.f.sect, .int .i64 x.f.align, .string x.f.group, .slice x.ba x.f.bs.length x.bc, .int .i64 x.f.size, .slice x.ra x.f.rs.length x.rc] 63)
          have hG := hG.all hs0
          have hAr := hAr.all hs0
          have zX : gO < wr.heap.size ∨ gO ≥ wr.heap.size := by omega
          obtain ⟨gX, hgX⟩ : ∃ g, g = wr.heap.size := ⟨_, rfl⟩
          obtain ⟨W3, hW3⟩ : ∃ W, W = wr.alloc (.cells #[.int .i64 x.f.sect, .int .i64 x.f.align, .string x.f.group, .slice x.ba x.f.bs.length x.bc, .int .i64 x.f.size, .slice x.ra x.f.rs.length x.rc] 63) := ⟨_, rfl⟩
          rw [← hgX] at kX ⊢
          rw [← hW3] at kX hI hG hAr ⊢
          clear hgX hW3 c0 c1 c2 c3 c4 c5 hx hs0 bl zX
          have x0 := kX.cell 0
          by_cases hse : x.f.sect = s
          · have HSE := Lib.hid hse
            have hmem := List.mem_of_getElem? hxe
            obtain ⟨a0, a8, aeq, adv⟩ := HLA.out.al0 hmem
            obtain ⟨l64, leq⟩ := HLA.out.ln0 hmem
            have HAE := Lib.hid aeq
            have HLE := Lib.hid leq
            have HFA := Lib.hid hfa
            have q3 : (x.f.sect != (s : Int)) = false := by simpa using hse
            have p0 := (kP.below hI.be kP.lt).cell 0
            have p0' : W3.cell? ⟨w.heap.size, 0, none⟩ = some (.slice (some ⟨b, off, none⟩) p.frs.length p.fc) := by rw [p0, ← hfa]; rfl
            have hpos := posAt_le HLA.out hs1 hs5 (by rw [HLL.out]; exact hk) HB.out
            have hxX := Lib.hid hxe
            clear hse p0 aeq leq hfa hmem hxe
            go_wp2_with fail
            clear p0' q3
            go_loopw [11, 51] (fun tw i wr => ∃ j : Nat, j ≤ k ∧ tw = .int .i64 (-1) ∧ i = .int .i64 j ∧ Hid (∀ j', j' < j → ∀ g, p.er.frs[j']? = some g → ¬ (s = 3 ∧ g.sect = s ∧ g.align = x.f.align ∧ g.bs = x.f.bs)) ∧ Below W3.heap.size W3 wr) (fun _ i _ => k - (intOf i).toNat)
            case atStart => exact ⟨0, Nat.zero_le _, rfl, rfl, fun j' hj' => absurd hj' (by omega), Below.refl _ _⟩
            case round =>
              clear x0
              obtain ⟨j, hj, rfl, rfl, hno, hbj⟩ := hrel
              by_cases hlj : j < k
              · obtain ⟨y, hy⟩ : ∃ y, p.frs[j]? = some y := ⟨_, List.getElem?_eq_getElem (by omega)⟩
                have hye : Hid (p.er.frs[j]? = some y.f) := by show _ = _; simp [PtM.er, hy]
                obtain ⟨b', off', hfa', bl', d0, d1, d2, d3, d4, d5⟩ := fg_get (hAr.fr.below hbj) hy
                rw [HFA.out] at hfa'
                injection hfa' with hfa'
                injection hfa' with e1 e2
                subst e1 e2
                have hGy := (hAr.each y (List.mem_of_getElem? hy)).keep hbj hbj.size
                clear hy
                go_upto_region 16 with (fail)
                have kY := Blk.new wr 63 #[.int .i64 y.f.sect, .int .i64 y.f.align, .string y.f.group, .slice y.ba y.f.bs.length y.bc, .int .i64 y.f.size, .slice y.ra y.f.rs.length y.rc]
                have hsY : Below wr.heap.size wr (wr.alloc (.cells #[.int .i64 y.f.sect, .int .i64 y.f.align, .string y.f.group, .slice y.ba y.f.bs.length y.bc, .int .i64 y.f.size, .slice y.ra y.f.rs.length y.rc] 63)) := by (repeat' (first | exact Below.refl _ _ | assumption | refine Below.setCell ?_ (by first | omega | exact Below.size (by assumption) | (simp; done) | (simp; omega)) _ | refine Below.alloc ?_ (by first | omega | exact Below.size (by assumption) | (simp; done) | (simp; omega)) _ | refine Below.drew ?_ | refine below_drewN ?_ _))
                have hbY := hbj.trans (hsY.mono hbj.size)
                have kX4 := kX.all hbY
                have hI4 := hI.all hbY
                have hGx := hG.all hbY
                have hGy := hGy.all hsY
                obtain ⟨gY, hgY⟩ : ∃ g, g = wr.heap.size := ⟨_, rfl⟩
                obtain ⟨W4, hW4⟩ : ∃ W, W = wr.alloc (.cells #[.int .i64 y.f.sect, .int .i64 y.f.align, .string y.f.group, .slice y.ba y.f.bs.length y.bc, .int .i64 y.f.size, .slice y.ra y.f.rs.length y.rc] 63) := ⟨_, rfl⟩
                rw [← hgY] at kY ⊢
                rw [← hW4] at kY kX4 hI4 hGx hGy hbY ⊢
                clear hgY hW4 d0 d1 d2 d3 d4 d5 hsY bl'
                by_cases h3 : s = 3
                · have q4 : ((s : Int) == 3) = true := by simp; omega
                  have H3 := Lib.hid h3
                  clear h3
                  have y0 := kY.cell 0
                  by_cases hys : y.f.sect = s
                  · have q5 : (y.f.sect == (s : Int)) = true := by simpa using hys
                    have HYS := Lib.hid hys
                    clear hys
                    have y1 := kY.cell 1
                    have x1 := kX4.cell 1
                    by_cases hya : y.f.align = x.f.align
                    · have q6 : (y.f.align == x.f.align) = true := by simpa using hya
                      have HYA := Lib.hid hya
                      clear hya
                      have y3 := kY.cell 3
                      have x3 := kX4.cell 3
                      by_cases hyb : y.f.bs = x.f.bs
                      · have BE := Lib.hid (bytesEqual_any y.ba x.ba y.bc x.bc y.f.bs x.f.bs W4 hGy.by_ hGx.by_)
                        rw [show (y.f.bs == x.f.bs) = true by simpa using hyb] at BE
                        have HYB := Lib.hid hyb
                        have q9 : decide ((0 : Int) ≤ (j : Int)) = true := by simp
                        clear hyb
                        go_wp2_with fail
                        refine BE.out.mono ?_
                        rintro e w5 ⟨rfl, hw5⟩
                        subst hw5
                        clear BE y0 y1 y3 x1 x3 q4 q5 q6 hGx hGy
                        go_upto_region 20 with (fail)
                        have H33 := H3.out
                        have hxs3 : x.f.sect = 3 := by have := HSE.out; omega
                        have hys3 : y.f.sect = 3 := by have := HYS.out; omega
                        have HFI := Lib.hid ((firstAt_iff hxX.out hxs3).2 ⟨j, hlj, y.f, hye.out, hys3, HYA.out, HYB.out⟩)
                        have HADJ : Hid (adrOf p.er.frs base j = adrOf p.er.frs base k) := adr_texts hxX.out hye.out (HYS.out.trans HSE.out.symm) hxs3 HYA.out HYB.out
                        have HPS := Lib.hid (posAt_skip (a := secFrom p.er.frs base s) (s := s) hxX.out (.inr HFI.out))
                        have HFJ : Hid ((frAt p.er.frs base s k)[j]? = some (adrOf p.er.frs base k : Int)) := by
                          show _ = _
                          rw [frAt_get hye.out, if_pos (.inr ⟨HYS.out, hlj⟩), HADJ.out]
                        have HFK : Hid (∃ t, (frAt p.er.frs base s k)[k]? = some t) := ⟨_, frAt_get hxX.out⟩
                        clear H33 hxs3 hys3
                        have hS : Hid (∀ w', Below w5.heap.size w5 w' → (w'.cell? ⟨gO, 0, none⟩ = some (.slice (some ⟨w1.heap.size, 0, none⟩) p.frs.length p.frs.length) ∧ w'.cell? ⟨w1.heap.size, j, none⟩ = some (.int .i64 (adrOf p.er.frs base k : Nat)))) :=
                          fun w' h => ⟨by rw [(hI4.all h).o.cell, HLL.out]; rfl, by rw [(hI4.all h).f.cell]; simp [intsV, intV, HFJ.out]⟩
                        have hb := (Below.refl w5.heap.size w5).drew
                        refine wp_region_late (S := (fun w' => (w'.cell? ⟨gO, 0, none⟩ = some (.slice (some ⟨w1.heap.size, 0, none⟩) p.frs.length p.frs.length) ∧ w'.cell? ⟨w1.heap.size, j, none⟩ = some (.int .i64 (adrOf p.er.frs base k : Nat))))) [9] (by kernel_rfl) (hS.out _ hb) (fun hHeld => ?_)
                        obtain ⟨wv, hwv⟩ : ∃ x, x = w5.drew := ⟨_, rfl⟩
                        rw [← hwv] at hb hHeld ⊢
                        clear hwv
                        have jn1 : (j : Int) < (p.frs.length : Int) := by omega
                        have kn1 : (k : Int) < (p.frs.length : Int) := by omega
                        (refine wpAnyLT_take (i := 0) (oi := { dst := some 82, op := Op.fieldAddr 30 (Operand.tmp 6) 0, type := 0, pos := "images.go:37", after := #[], guard := none }) (v := ?_) rfl (by kernel_rfl) (by kernel_rfl) (by kernel_rfl) (fun _ _ _ h => h) (Or.inl ⟨by rfl, ?_⟩) (by assumption) (by kernel_rfl) (by rfl) (by kernel_rfl) ?_; rotate_left; (focus (intro w hSw; (try dsimp only at hSw); go_simp; (try with_reducible rfl))); (try simp only [Act.put, List.setIfInBounds_toArray, List.set_cons_zero, List.set_cons_succ]))
                        (refine wpAnyLT_take (i := 1) (oi := { dst := some 83, op := Op.load 26 (Operand.tmp 82), type := 26, pos := "images.go:37", after := #[{ on := 0, ground := Ground.data }], guard := none }) (v := ?_) rfl (by kernel_rfl) (by kernel_rfl) (by kernel_rfl) (fun _ _ _ h => h) (Or.inl ⟨by rfl, ?_⟩) (by assumption) (by kernel_rfl) (by rfl) (by kernel_rfl) ?_; rotate_left; (focus (intro w hSw; (try dsimp only at hSw); go_simp; (try with_reducible rfl))); (try simp only [Act.put, List.setIfInBounds_toArray, List.set_cons_zero, List.set_cons_succ]))
                        (refine wpAnyLT_take (i := 2) (oi := { dst := some 84, op := Op.move (Operand.tmp 9), type := 3, pos := "images.go:37", after := #[], guard := none }) (v := ?_) rfl (by kernel_rfl) (by kernel_rfl) (by kernel_rfl) (fun _ _ _ h => h) (Or.inl ⟨by rfl, ?_⟩) (by assumption) (by kernel_rfl) (by rfl) (by kernel_rfl) ?_; rotate_left; (focus (intro w hSw; (try dsimp only at hSw); go_simp; (try with_reducible rfl))); (try simp only [Act.put, List.setIfInBounds_toArray, List.set_cons_zero, List.set_cons_succ]))
                        (refine wpAnyLT_take (i := 3) (oi := { dst := some 85, op := Op.fieldAddr 30 (Operand.tmp 6) 0, type := 0, pos := "images.go:37", after := #[], guard := none }) (v := ?_) rfl (by kernel_rfl) (by kernel_rfl) (by kernel_rfl) (fun _ _ _ h => h) (Or.inl ⟨by rfl, ?_⟩) (by assumption) (by kernel_rfl) (by rfl) (by kernel_rfl) ?_; rotate_left; (focus (intro w hSw; (try dsimp only at hSw); go_simp; (try with_reducible rfl))); (try simp only [Act.put, List.setIfInBounds_toArray, List.set_cons_zero, List.set_cons_succ]))
                        (refine wpAnyLT_take (i := 4) (oi := { dst := some 86, op := Op.load 26 (Operand.tmp 85), type := 26, pos := "images.go:37", after := #[{ on := 3, ground := Ground.data }], guard := none }) (v := ?_) rfl (by kernel_rfl) (by kernel_rfl) (by kernel_rfl) (fun _ _ _ h => h) (Or.inl ⟨by rfl, ?_⟩) (by assumption) (by kernel_rfl) (by rfl) (by kernel_rfl) ?_; rotate_left; (focus (intro w hSw; (try dsimp only at hSw); go_simp; (try with_reducible rfl))); (try simp only [Act.put, List.setIfInBounds_toArray, List.set_cons_zero, List.set_cons_succ]))
                        (refine wpAnyLT_take (i := 5) (oi := { dst := some 87, op := Op.move (Operand.tmp 11), type := 3, pos := "images.go:37", after := #[], guard := none }) (v := ?_) rfl (by kernel_rfl) (by kernel_rfl) (by kernel_rfl) (fun _ _ _ h => h) (Or.inl ⟨by rfl, ?_⟩) (by assumption) (by kernel_rfl) (by rfl) (by kernel_rfl) ?_; rotate_left; (focus (intro w hSw; (try dsimp only at hSw); go_simp; (try with_reducible rfl))); (try simp only [Act.put, List.setIfInBounds_toArray, List.set_cons_zero, List.set_cons_succ]))
                        (refine wpAnyLT_take (i := 6) (oi := { dst := some 88, op := Op.indexAddr 26 (Operand.tmp 86) (Operand.tmp 87), type := 0, pos := "images.go:37", after := #[{ on := 4, ground := Ground.data }, { on := 5, ground := Ground.data }], guard := none }) (v := ?_) rfl (by kernel_rfl) (by kernel_rfl) (by kernel_rfl) (fun _ _ _ h => h) (Or.inl ⟨by rfl, ?_⟩) (by assumption) (by kernel_rfl) (by rfl) (by kernel_rfl) ?_; rotate_left; (focus (intro w hSw; (try dsimp only at hSw); go_simp; (try with_reducible rfl))); (try simp only [Act.put, List.setIfInBounds_toArray, List.set_cons_zero, List.set_cons_succ]))
                        (refine wpAnyLT_take (i := 7) (oi := { dst := some 89, op := Op.load 3 (Operand.tmp 88), type := 3, pos := "images.go:37", after := #[{ on := 6, ground := Ground.data }], guard := none }) (v := ?_) rfl (by kernel_rfl) (by kernel_rfl) (by kernel_rfl) (fun _ _ _ h => h) (Or.inl ⟨by rfl, ?_⟩) (by assumption) (by kernel_rfl) (by rfl) (by kernel_rfl) ?_; rotate_left; (focus (intro w hSw; (try dsimp only at hSw); go_simp; (try with_reducible rfl))); (try simp only [Act.put, List.setIfInBounds_toArray, List.set_cons_zero, List.set_cons_succ]))
                        (refine wpAnyLT_take (i := 8) (oi := { dst := some 90, op := Op.indexAddr 26 (Operand.tmp 83) (Operand.tmp 84), type := 0, pos := "images.go:37", after := #[{ on := 1, ground := Ground.data }, { on := 2, ground := Ground.data }, { on := 0, ground := Ground.phase }, { on := 1, ground := Ground.phase }, { on := 2, ground := Ground.phase }, { on := 3, ground := Ground.phase }, { on := 4, ground := Ground.phase }, { on := 5, ground := Ground.phase }, { on := 6, ground := Ground.phase }, { on := 7, ground := Ground.phase }], guard := none }) (v := ?_) rfl (by kernel_rfl) (by kernel_rfl) (by kernel_rfl) (fun _ _ _ h => h) (Or.inl ⟨by rfl, ?_⟩) (by assumption) (by kernel_rfl) (by rfl) (by kernel_rfl) ?_; rotate_left; (focus (intro w hSw; (try dsimp only at hSw); go_simp; (try with_reducible rfl))); (try simp only [Act.put, List.setIfInBounds_toArray, List.set_cons_zero, List.set_cons_succ]))
                        have hIv := hI4.all hb
                        obtain ⟨tk, htk⟩ := HFK.out
                        have dF : wv.cell? ⟨w1.heap.size, k, none⟩ = some (.int .i64 tk) := by rw [hIv.f.cell]; simp [intsV, intV, htk]
                        have fF := hIv.f.frozen k
                        have hI6 := hIv.put (by omega) hxX.out HSE.out
                        clear htk
                        (refine wpAnyL_ready (rs := [9]) (by kernel_rfl) (by simp) ?_; refine List.forall_mem_cons.2 ⟨stepLate (o := { dst := none, op := Op.store 3 (Operand.tmp 90) (Operand.tmp 89), type := 0, pos := "images.go:37", after := #[{ on := 8, ground := Ground.data }, { on := 7, ground := Ground.data }, { on := 0, ground := Ground.phase }, { on := 1, ground := Ground.phase }, { on := 2, ground := Ground.phase }, { on := 3, ground := Ground.phase }, { on := 4, ground := Ground.phase }, { on := 5, ground := Ground.phase }, { on := 6, ground := Ground.phase }, { on := 7, ground := Ground.phase }], guard := none }) rfl (by rfl) (fun K hK => ?_), fun _ h => by cases h⟩; go_simp; refine hK.out _ _ ?_; (clear hK K; (try simp only [Act.put, List.setIfInBounds_toArray, List.set_cons_zero, List.set_cons_succ])))
                        refine wpAnyL_done (by kernel_rfl) ?_ _
                        go_wp2_with fail
                        go_roundw
                        case rel => exact ⟨k + 1, by omega, by go_num, by rw [HPS.out], hI6⟩
                        case measure => simp [intOf]; omega
                      · have BE := Lib.hid (bytesEqual_any y.ba x.ba y.bc x.bc y.f.bs x.f.bs W4 hGy.by_ hGx.by_)
                        rw [show (y.f.bs == x.f.bs) = false by simpa using hyb] at BE
                        have hno2 := Lib.hid (no_next (P := fun g => s = 3 ∧ g.sect = s ∧ g.align = x.f.align ∧ g.bs = x.f.bs) hno.out hye.out (fun h => hyb h.2.2.2))
                        clear hyb
                        go_wp2_with fail
                        refine BE.out.mono ?_
                        rintro e w5 ⟨rfl, hw5⟩
                        subst hw5
                        go_wp2_with fail
                        (go_roundw; (case rel => exact ⟨j + 1, by omega, rfl, by go_num, hno2, hbY⟩); (case measure => simp [intOf]; omega))
                    · have q6 : (y.f.align == x.f.align) = false := by simpa using hya
                      have hno2 := Lib.hid (no_next (P := fun g => s = 3 ∧ g.sect = s ∧ g.align = x.f.align ∧ g.bs = x.f.bs) hno.out hye.out (fun h => hya h.2.2.1))
                      clear hya
                      go_wp2_with fail
                      (go_roundw; (case rel => exact ⟨j + 1, by omega, rfl, by go_num, hno2, hbY⟩); (case measure => simp [intOf]; omega))
                  · have q5 : (y.f.sect == (s : Int)) = false := by simpa using hys
                    have hno2 := Lib.hid (no_next (P := fun g => s = 3 ∧ g.sect = s ∧ g.align = x.f.align ∧ g.bs = x.f.bs) hno.out hye.out (fun h => hys h.2.1))
                    clear hys
                    go_wp2_with fail
                    (go_roundw; (case rel => exact ⟨j + 1, by omega, rfl, by go_num, hno2, hbY⟩); (case measure => simp [intOf]; omega))
                · have q4 : ((s : Int) == 3) = false := by simp; omega
                  have hno2 := Lib.hid (no_next (P := fun g => s = 3 ∧ g.sect = s ∧ g.align = x.f.align ∧ g.bs = x.f.bs) hno.out hye.out (fun h => h3 h.1))
                  clear h3
                  go_wp2_with fail
                  (go_roundw; (case rel => exact ⟨j + 1, by omega, rfl, by go_num, hno2, hbY⟩); (case measure => simp [intOf]; omega))
              · obtain rfl : j = k := by omega
                have HNEW : Hid (firstAt p.er.frs j = j) := by
                  show _ = _
                  by_cases h3 : x.f.sect = 3
                  · rcases Decidable.em (firstAt p.er.frs j = j) with e | e
                    · exact e
                    · obtain ⟨j', hj', g, hg, h1, h2, h4⟩ := (firstAt_iff hxX.out h3).1 e
                      exact absurd ⟨by have := HSE.out; omega, by have := HSE.out; omega, h2, h4⟩ (hno.out j' hj' g hg)
                  · exact firstAt_other hxX.out h3
                have HAD : Hid (adrOf p.er.frs base j = upN (posAt p.er.frs s (secFrom p.er.frs base s) j) x.f.al) := by
                  show _ = _
                  rw [adrOf_eq _ hxX.out, plcAt_eq _ (by rw [HNEW.out]; exact hxX.out), HNEW.out, HSE.out]
                  rfl
                have HPS0 := posAt_step (a := secFrom p.er.frs base s) hxX.out HSE.out HNEW.out
                rw [← HAD.out] at HPS0
                have HPS := Lib.hid HPS0
                have hadr : adrOf p.er.frs base j ≤ 200100 := by have := upN_lt (posAt p.er.frs s (secFrom p.er.frs base s) j) x.f.al a0; have := HAD.out; omega
                have hup := next_any (posAt p.er.frs s (secFrom p.er.frs base s) j) x.f.al wr (by omega) a0 (by omega)
                rw [HAE.out, ← HAD.out] at hup
                have kXr := kX.all hbj
                have hIr := hI.all hbj
                have x1 := kXr.cell 1
                clear HPS0
                go_wp2_with fail
                refine hup.mono ?_
                rintro e w4 ⟨rfl, hw4⟩
                subst hw4
                clear hup x1
                obtain ⟨tk, htk⟩ : ∃ t, (frAt p.er.frs base s j)[j]? = some t := ⟨_, frAt_get hxX.out⟩
                have dO : w4.cell? ⟨gO, 0, none⟩ = some (.slice (some ⟨w1.heap.size, 0, none⟩) p.frs.length p.frs.length) := by rw [hIr.o.cell, HLL.out]; rfl
                have dF : w4.cell? ⟨w1.heap.size, j, none⟩ = some (.int .i64 tk) := by rw [hIr.f.cell]; simp [intsV, intV, htk]
                have fF := hIr.f.frozen j
                have hI6 := hIr.put (by omega) hxX.out HSE.out
                have kX5 := kXr.far (p := ⟨w1.heap.size, j, none⟩) (kXr.ne_ hIr.f (by decide)) (.int .i64 (adrOf p.er.frs base j : Nat))
                have jn1 : (j : Int) < (p.frs.length : Int) := by omega
                clear htk
                go_upto_region 23 with (fail)
                obtain ⟨W5, hW5⟩ : ∃ W, W = w4.setCell ⟨w1.heap.size, j, none⟩ (.int .i64 (adrOf p.er.frs base j : Nat)) := ⟨_, rfl⟩
                rw [← hW5] at hI6 kX5 ⊢
                clear hW5 dO dF fF
                have x0 := kX5.cell 0
                have x1 := kX5.cell 1
                have x2 := kX5.cell 2
                have x3 := kX5.cell 3
                have x4 := kX5.cell 4
                have x5 := kX5.cell 5
                have hlong := longOf_any x W5
                rw [← HLE.out] at hlong
                go_wp2_with fail
                refine hlong.mono ?_
                rintro e w6 ⟨rfl, hb6⟩
                clear hlong x0 x1 x2 x3 x4 x5
                have hI7 := hI6.all hb6
                clear hI6
                go_wp2_with fail
                go_roundw
                case rel => exact ⟨j + 1, by omega, by go_num, by (rw [HPS.out]; go_num), hI7⟩
                case measure => simp [intOf]; omega
          · have q3 : (x.f.sect != (s : Int)) = true := by simpa using hse
            have hI2 := hI.skip hxe hse
            have HPS := Lib.hid (posAt_skip (a := secFrom p.er.frs base s) hxe (.inl hse))
            clear hse
            go_wp2_with fail
            go_roundw
            case rel => exact ⟨k + 1, by omega, by go_num, by rw [HPS.out], hI2⟩
            case measure => simp [intOf]; omega
        · obtain rfl : k = p.frs.length := by omega
          have HE := Lib.hid (secEnd_pos p.er.frs base hs1)
          have hse := secEnd_le HLA.out base s
          have hbb := HB.out
          have t9 : wr.cell? ⟨gO, 9 + s, none⟩ = some (.int .i64 0) := (hI.o.cell _).trans (lcells_get9 (sixAt_len _ _) (sixAt_get _ hs1 hs5))
          have f9 := hI.o.frozen (9 + s)
          rw [show posAt p.er.frs s (secFrom p.er.frs base s) p.frs.length = secEnd p.er.frs base s by rw [HE.out, HLL.out]]
          by_cases h5 : s = 5
          · have q5 : ((s : Int) == 5) = true := by simp; omega
            have H5 := Lib.hid h5
            clear h5 t9 f9
            obtain ⟨is, his, hisz, hiss, hisb⟩ := info_parts Tryd.infoStr
            obtain ⟨ii, hii, hiiz, hiis, hiib⟩ := info_parts Tryd.infoInt
            have hAr := hA.keep hI.be hI.be.size
            have kPw := kP.below hI.be kP.lt
            have y0 := kPw.cell 0
            have y1 := kPw.cell 1
            obtain ⟨a, ha⟩ : ∃ a, secEnd p.er.frs base s = a := ⟨_, rfl⟩
            have HA := Lib.hid ha
            have ha5 : a ≤ 500000 := by omega
            rw [ha]
            clear ha
            go_wp2_with fail
            refine (definedBy_any p wr hAr HC.out).mono ?_
            rintro e wl ⟨v, rfl, hrow, hbl⟩
            obtain ⟨L, hL⟩ : ∃ L, definedP p.er = L := ⟨_, rfl⟩
            have hLl : L.length ≤ 60 := by
              rw [← hL]
              exact Nat.le_trans (setS_len _) (by rw [List.length_map]; exact hs.df)
            rw [hL] at hrow
            have HL := Lib.hid hL
            obtain ⟨AL, cL, rfl, _, _⟩ := own_form hrow
            have hIl := hI.all hbl
            have kO := hIl.o
            have kPl := kPw.all hbl
            have hAl : p.At wl w1.heap.size := hA.keep hIl.be (Nat.le_refl _)
            have hzl := hbl.size
            have hzO := hIl.sz
            have hzB := hIl.be.size
            have HCM : Hid (∀ d ∈ p.dfs, d.comOk) := comOk_of HC.out
            clear hL y0 y1 kPw hAr hI hbl
            go_wp2_with fail
            go_loopw [7, 110] (fun x i wr => ∃ (k : Nat) (v2 v3 : Value) (st : CSt), k ≤ L.length ∧ i = .int .i64 k ∧ x = .int .i64 st.at_ ∧ Hid (st = comAt p.dfs a (L.take k)) ∧ Blk wr gO 30 (lcells (.slice (some ⟨w1.heap.size, 0, none⟩) p.er.frs.length p.er.frs.length) v2 v3 (sixAt (secFrom p.er.frs base) s) (sixAt (toN p.er base) (s - 1))).toArray ∧
                wr.ownsRow wl.heap.size 9 1 v2 st.ns.length (strsV st.ns) ∧ wr.ownsRow wl.heap.size 3 1 v3 st.cs.length (intsV (st.cs.map Int.ofNat)) ∧ wl.grownBy wr (some gO)) (fun _ i _ => L.length - (intOf i).toNat)
            case atStart => exact ⟨0, _, _, comAt p.dfs a [], Nat.zero_le _, rfl, rfl, Lib.hid rfl, kO, World.ownsRow_nil _ _ _ _, World.ownsRow_nil _ _ _ _, World.grownBy.refl _ _⟩
            case round =>
              have kOl := kO
              clear kO
              obtain ⟨k, v2, v3, st, hk, rfl, rfl, hst, kO, ow2, ow3, G⟩ := hrel
              have kPr := kPl.grown G (by intro e; injection e with e; omega)
              have hbr := below_gro G (by omega)
              have hAr : p.At wr wr.heap.size := hAl.keep (hbr.mono (by omega)) (by have := G.size; omega)
              have hr := own_kept hrow G (.inr (own_blk_ne hrow kOl (by decide)))
              have hzr := G.size
              have hsl : st.at_ ≤ 510000 ∧ st.ns.length ≤ 60 ∧ st.cs.length ≤ 60 := by
                rw [hst.out]
                have := com_len (dfs := p.dfs) HCM.out a (L.take k)
                have := List.length_take_le' k L
                omega
              obtain ⟨l1, l2, l3⟩ := hsl
              by_cases hlt : k < L.length
              · obtain ⟨n, hn⟩ : ∃ n, L[k]? = some n := ⟨_, List.getElem?_eq_getElem hlt⟩
                obtain ⟨b, off, rfl, c0⟩ := str_get (Reads.of_own hr) hn
                have HN : Hid (comAt p.dfs a (L.take (k + 1)) = comStep p.dfs st n) := by
                  show _ = _
                  rw [hst.out, List.take_add_one, hn]
                  exact comAt_snoc _ _ _ _
                have y0 := kPr.cell 0
                have y1 := kPr.cell 1
                clear hn hst
                go_wp2_with fail
                refine (refFound_any p n wr hAr HC.out).mono ?_
                rintro e w7 ⟨rfl, hb1⟩
                clear y0 y1 c0 hAr
                have kO1 := kO.all hb1
                have o21 := own_all ow2 hb1
                have o31 := own_all ow3 hb1
                have G1 := gro_below G hb1
                have hz1 := hb1.size
                clear kO ow2 ow3 G kPr hr hb1 hbr
                rcases com_cases p.dfs n with ⟨d, hf, h3⟩ | hno
                · obtain ⟨a1, a2, a3, a4, a5, a6, a7⟩ := com_al (by have := comOk_find HCM.out n; rw [hf] at this; exact this) h3
                  have HN' := Lib.hid (HN.out.trans (comStep_yes hf h3))
                  have hu1 := upN_lt st.at_ d.align.toNat a1
                  rw [hf]
                  dsimp only
                  rw [h3]
                  clear hf h3 a4 HN
                  go_upto_region 30 with (fail)
                  have kD := Blk.new w7 70 #[.string d.name, .int .i64 3, .int .i64 d.frag, .int .i64 d.at_, .int .i64 d.size, .int .i64 d.align]
                  have kO := kO1.alloc (.cells #[.string d.name, .int .i64 3, .int .i64 d.frag, .int .i64 d.at_, .int .i64 d.size, .int .i64 d.align] 70)
                  have ow2 := o21.alloc (.cells #[.string d.name, .int .i64 3, .int .i64 d.frag, .int .i64 d.at_, .int .i64 d.size, .int .i64 d.align] 70)
                  have ow3 := o31.alloc (.cells #[.string d.name, .int .i64 3, .int .i64 d.frag, .int .i64 d.at_, .int .i64 d.size, .int .i64 d.align] 70)
                  have G := gro_alloc G1 (.cells #[.string d.name, .int .i64 3, .int .i64 d.frag, .int .i64 d.at_, .int .i64 d.size, .int .i64 d.align] 70)
                  obtain ⟨gD, hgD⟩ : ∃ g, g = w7.heap.size := ⟨_, rfl⟩
                  obtain ⟨W2, hW2⟩ : ∃ W, W = w7.alloc (.cells #[.string d.name, .int .i64 3, .int .i64 d.frag, .int .i64 d.at_, .int .i64 d.size, .int .i64 d.align] 70) := ⟨_, rfl⟩
                  rw [← hgD] at kD ⊢
                  rw [← hW2] at kD kO ow2 ow3 G ⊢
                  have hzD : wl.heap.size ≤ gD := by omega
                  clear hW2 hgD kO1 o21 o31 G1
                  have y1 := kD.cell 1
                  have y4 : W2.cell? ⟨gD, 4, none⟩ = some (.int .i64 d.size) := kD.cell 4
                  have y5 : W2.cell? ⟨gD, 5, none⟩ = some (.int .i64 d.align) := kD.cell 5
                  go_wp2_with fail
                  have hup := next_any st.at_ d.align.toNat W2 (by omega) a1 (by omega)
                  rw [a3] at hup
                  refine hup.mono ?_
                  rintro e w3 ⟨rfl, rfl⟩
                  clear y1 y5 hup
                  go_upto_region 32 with (fail)
                  go_cut [131] (fun _ wx => ∃ v2' v3', Blk wx gO 30 (lcells (.slice (some ⟨w1.heap.size, 0, none⟩) p.er.frs.length p.er.frs.length) v2' v3' (sixAt (secFrom p.er.frs base) s) (sixAt (toN p.er base) (s - 1))).toArray ∧ wx.ownsRow wl.heap.size 9 1 v2' (st.ns.length + 1) (strsV st.ns ++ [.string n]) ∧
                    wx.ownsRow wl.heap.size 3 1 v3' (st.cs.length + 1) (intsV (st.cs.map Int.ofNat) ++ [.int .i64 (upN st.at_ d.align.toNat : Nat)]) ∧ wl.grownBy wx (some gO) ∧ Blk wx gD 70 #[.string d.name, .int .i64 3, .int .i64 d.frag, .int .i64 d.at_, .int .i64 d.size, .int .i64 d.align])
                  case first =>
                    refine wp_region_any (by kernel_rfl) ?_
                    change wpAny _ _ _ _ _ _ _ (World.drew w3)
                    have kO := kO.drew
                    have kD := kD.drew
                    have ow2 := ow2.drew
                    have ow3 := ow3.drew
                    have G := gro_drew G
                    obtain ⟨wv, hwv⟩ : ∃ x, x = w3.drew := ⟨_, rfl⟩
                    rw [← hwv] at kO kD ow2 ow3 G ⊢
                    clear hwv y4
                    (refine wpAny_take (i := 7) (oi := { dst := some 138, op := Op.move (Operand.tmp 7), type := 3, pos := "images.go:48", after := #[], guard := none }) (v := ?_) rfl (by kernel_rfl) (by kernel_rfl) (by kernel_rfl) (fun _ _ _ h => h) (Or.inl ⟨by rfl, ?_⟩) ?_; rotate_left; (focus (intro w; go_simp; (try with_reducible rfl))); (try simp only [Act.put, List.setIfInBounds_toArray, List.set_cons_zero, List.set_cons_succ]))
                    have hHeld := kO.l12
                    refine wpAny_of_late (S := fun w' => w'.cell? ⟨gO, 1, none⟩ = some v2 ∧ w'.cell? ⟨gO, 2, none⟩ = some v3) (late := [10, 11, 12, 13]) _ _ _ _ ?_
                    (refine wpAnyL_take (i := 0) (oi := { dst := some 131, op := Op.fieldAddr 30 (Operand.tmp 6) 1, type := 0, pos := "images.go:48", after := #[], guard := none }) (v := ?_) rfl (by kernel_rfl) (by kernel_rfl) (by kernel_rfl) (fun _ _ _ h => h) (Or.inl ⟨by rfl, ?_⟩) (by assumption) (by kernel_rfl) (by rfl) ?_; rotate_left; (focus (intro w hSw; (try dsimp only at hSw); go_simp; (try with_reducible rfl))); (try simp only [Act.put, List.setIfInBounds_toArray, List.set_cons_zero, List.set_cons_succ]))
                    (refine wpAnyL_take (i := 1) (oi := { dst := some 132, op := Op.load 27 (Operand.tmp 131), type := 27, pos := "images.go:48", after := #[{ on := 0, ground := Ground.data }], guard := none }) (v := ?_) rfl (by kernel_rfl) (by kernel_rfl) (by kernel_rfl) (fun _ _ _ h => h) (Or.inl ⟨by rfl, ?_⟩) (by assumption) (by kernel_rfl) (by rfl) ?_; rotate_left; (focus (intro w hSw; (try dsimp only at hSw); go_simp; (try with_reducible rfl))); (try simp only [Act.put, List.setIfInBounds_toArray, List.set_cons_zero, List.set_cons_succ]))
                    (refine wpAnyL_take (i := 2) (oi := { dst := some 133, op := Op.move (Operand.tmp 15), type := 9, pos := "images.go:48", after := #[], guard := none }) (v := ?_) rfl (by kernel_rfl) (by kernel_rfl) (by kernel_rfl) (fun _ _ _ h => h) (Or.inl ⟨by rfl, ?_⟩) (by assumption) (by kernel_rfl) (by rfl) ?_; rotate_left; (focus (intro w hSw; (try dsimp only at hSw); go_simp; (try with_reducible rfl))); (try simp only [Act.put, List.setIfInBounds_toArray, List.set_cons_zero, List.set_cons_succ]))
                    (refine wpAnyL_take (i := 5) (oi := { dst := some 136, op := Op.fieldAddr 30 (Operand.tmp 6) 2, type := 0, pos := "images.go:48", after := #[], guard := none }) (v := ?_) rfl (by kernel_rfl) (by kernel_rfl) (by kernel_rfl) (fun _ _ _ h => h) (Or.inl ⟨by rfl, ?_⟩) (by assumption) (by kernel_rfl) (by rfl) ?_; rotate_left; (focus (intro w hSw; (try dsimp only at hSw); go_simp; (try with_reducible rfl))); (try simp only [Act.put, List.setIfInBounds_toArray, List.set_cons_zero, List.set_cons_succ]))
                    (refine wpAnyL_take (i := 6) (oi := { dst := some 137, op := Op.load 26 (Operand.tmp 136), type := 26, pos := "images.go:48", after := #[{ on := 5, ground := Ground.data }], guard := none }) (v := ?_) rfl (by kernel_rfl) (by kernel_rfl) (by kernel_rfl) (fun _ _ _ h => h) (Or.inl ⟨by rfl, ?_⟩) (by assumption) (by kernel_rfl) (by rfl) ?_; rotate_left; (focus (intro w hSw; (try dsimp only at hSw); go_simp; (try with_reducible rfl))); (try simp only [Act.put, List.setIfInBounds_toArray, List.set_cons_zero, List.set_cons_succ]))
                    (refine wpAnyL_ready (rs := [3, 8]) (by kernel_rfl) (by simp) ?_; refine List.forall_mem_cons.2 ⟨?_, List.forall_mem_cons.2 ⟨?_, fun _ h => by cases h⟩⟩)
                    · (refine stepL (o := { dst := some 134, op := Op.buildSlice 27 1 #[(0, Operand.tmp 133)], type := 27, pos := "images.go:48", after := #[{ on := 2, ground := Ground.data }], guard := none }) rfl (fun K hK => ?_); go_simp; refine hK.out _ _ ((kO.alloc (.cells #[.string n] 9)).l12) (fun hHeld => ?_); (clear hK K; (try simp only [Act.put, List.setIfInBounds_toArray, List.set_cons_zero, List.set_cons_succ])); have k7 := Blk.new wv 9 #[.string n]; (try have k14 := k14.alloc (.cells #[.string n] 9)); have kO := kO.alloc (.cells #[.string n] 9); have kD := kD.alloc (.cells #[.string n] 9); have ow2 := ow2.alloc (.cells #[.string n] 9); have ow3 := ow3.alloc (.cells #[.string n] 9); have G := gro_alloc G (.cells #[.string n] 9); obtain ⟨gs, hgs⟩ : ∃ g, g = wv.heap.size := ⟨_, rfl⟩; rw [← hgs] at k7 ⊢; clear hgs; obtain ⟨wv, hwv⟩ : ∃ x, x = wv.alloc (.cells #[.string n] 9) := ⟨_, rfl⟩; rw [← hwv] at k7 ow2 ow3 kO kD G hHeld ⊢; (try rw [← hwv] at k14); clear hwv)
                      (refine wpAnyL_ready (rs := [4, 8]) (by kernel_rfl) (by simp) ?_; refine List.forall_mem_cons.2 ⟨?_, List.forall_mem_cons.2 ⟨?_, fun _ h => by cases h⟩⟩)
                      · (refine stepL (o := { dst := some 135, op := Op.call { callee := Callee.builtin Builtin.append, args := #[Operand.tmp 132, Operand.tmp 134], argTypes := #[27, 27] }, type := 27, pos := "images.go:48", after := #[{ on := 1, ground := Ground.data }, { on := 3, ground := Ground.data }], guard := none }) rfl (fun K hK => ?_); refine step_append_any _ rfl (.tmp 132) (.tmp 134) 27 rfl wl.heap.size 9 is (.string ⟨#[]⟩) 1 16 Tryd.underlying27 his hisz hiss hisb rfl (by decide) _ _ _ rfl ow2 _ (some ⟨gs, 0, none⟩) 1 1 [.string n] rfl (by simpa using k7.reads (size := 1) (n := 1) rfl) (by intro u hu; simp at hu; subst hu; rfl) ?c2 ?c3 ?c4 ?_; (case c2 => unfold maxLen; omega); (case c3 => omega); (case c4 => exact G.size); intro v2' wn ho hg _; have kOn := kO.grown hg (own_blk_ne ow2 kO (by decide)).symm; refine hK.out _ _ kOn.l12 (fun hHeld => ?_); (clear hK K; (try simp only [Act.put, List.setIfInBounds_toArray, List.set_cons_zero, List.set_cons_succ])); clear k7; (try have k14 := k14.grown hg (own_blk_ne ow2 k14 (by decide)).symm); have ow3 := own_kept ow3 hg (own_row_ne ow3 ow2 (by decide)); have G := gro_row G ow2 hg; have ow2' : wn.ownsRow wl.heap.size 9 1 v2' (st.ns.length + 1) (strsV st.ns ++ [.string n]) := (by simpa using ho); have kD := kD.grown hg (own_blk_ne ow2 kD (by decide)).symm; clear ow2 kO ho hg; have kO := kOn; clear kOn; obtain ⟨B2, d2, rfl, _, _⟩ := own_form ow2'; obtain ⟨wv, hwv⟩ : ∃ x, x = wn := ⟨_, rfl⟩; rw [← hwv] at ow2' ow3 kO kD G hHeld ⊢; (try rw [← hwv] at k14); clear hwv)
                        (refine wpAnyLU_take (i := 10) (oi := { dst := some 141, op := Op.fieldAddr 30 (Operand.tmp 6) 1, type := 0, pos := "images.go:48", after := #[{ on := 0, ground := Ground.phase }, { on := 1, ground := Ground.phase }, { on := 2, ground := Ground.phase }, { on := 3, ground := Ground.phase }, { on := 4, ground := Ground.phase }, { on := 5, ground := Ground.phase }, { on := 6, ground := Ground.phase }, { on := 7, ground := Ground.textOnly Departure.lateStores }, { on := 8, ground := Ground.textOnly Departure.lateStores }, { on := 9, ground := Ground.textOnly Departure.lateStoresUnsure }], guard := none }) (v := ?_) rfl (by kernel_rfl) (by kernel_rfl) (by kernel_rfl) (fun _ _ _ h => h) (Or.inl ⟨by rfl, ?_⟩) (by rfl) ?_; rotate_left; (focus (intro w hSw; go_simp; (try with_reducible rfl))); (try simp only [Act.put, List.setIfInBounds_toArray, List.set_cons_zero, List.set_cons_succ]))
                        (refine wpAnyL_ready (rs := [8]) (by kernel_rfl) (by simp) ?_; refine List.forall_mem_cons.2 ⟨?_, fun _ h => by cases h⟩)
                        (refine stepL (o := { dst := some 139, op := Op.buildSlice 26 1 #[(0, Operand.tmp 138)], type := 26, pos := "images.go:48", after := #[{ on := 7, ground := Ground.data }], guard := none }) rfl (fun K hK => ?_); go_simp; refine hK.out _ _ ((kO.alloc (.cells #[.int .i64 (upN st.at_ d.align.toNat : Nat)] 3)).l12) (fun hHeld => ?_); (clear hK K; (try simp only [Act.put, List.setIfInBounds_toArray, List.set_cons_zero, List.set_cons_succ])); have k14 := Blk.new wv 3 #[.int .i64 (upN st.at_ d.align.toNat : Nat)]; (try have k7 := k7.alloc (.cells #[.int .i64 (upN st.at_ d.align.toNat : Nat)] 3)); have kO := kO.alloc (.cells #[.int .i64 (upN st.at_ d.align.toNat : Nat)] 3); have kD := kD.alloc (.cells #[.int .i64 (upN st.at_ d.align.toNat : Nat)] 3); (try have ow2 := ow2.alloc (.cells #[.int .i64 (upN st.at_ d.align.toNat : Nat)] 3)); (try have ow2' := ow2'.alloc (.cells #[.int .i64 (upN st.at_ d.align.toNat : Nat)] 3)); have ow3 := ow3.alloc (.cells #[.int .i64 (upN st.at_ d.align.toNat : Nat)] 3); have G := gro_alloc G (.cells #[.int .i64 (upN st.at_ d.align.toNat : Nat)] 3); obtain ⟨gi, hgi⟩ : ∃ g, g = wv.heap.size := ⟨_, rfl⟩; rw [← hgi] at k14 ⊢; clear hgi; obtain ⟨wv, hwv⟩ : ∃ x, x = wv.alloc (.cells #[.int .i64 (upN st.at_ d.align.toNat : Nat)] 3) := ⟨_, rfl⟩; rw [← hwv] at k14 ow3 kO kD G hHeld ⊢; (try rw [← hwv] at ow2); (try rw [← hwv] at ow2'); (try rw [← hwv] at k7); clear hwv)
                        (refine wpAnyL_ready (rs := [9]) (by kernel_rfl) (by simp) ?_; refine List.forall_mem_cons.2 ⟨?_, fun _ h => by cases h⟩)
                        (refine stepL (o := { dst := some 140, op := Op.call { callee := Callee.builtin Builtin.append, args := #[Operand.tmp 137, Operand.tmp 139], argTypes := #[26, 26] }, type := 26, pos := "images.go:48", after := #[{ on := 6, ground := Ground.data }, { on := 8, ground := Ground.data }, { on := 4, ground := Ground.chain }], guard := none }) rfl (fun K hK => ?_); refine step_append_any _ rfl (.tmp 137) (.tmp 139) 26 rfl wl.heap.size 3 ii (.int .i64 0) 1 8 Tryd.underlying26 hii hiiz hiis hiib rfl (by decide) _ _ _ rfl ow3 _ (some ⟨gi, 0, none⟩) 1 1 [.int .i64 (upN st.at_ d.align.toNat : Nat)] rfl (by simpa using k14.reads (size := 1) (n := 1) rfl) (by intro u hu; simp at hu; subst hu; rfl) ?c2 ?c3 ?c4 ?_; (case c2 => unfold maxLen; omega); (case c3 => omega); (case c4 => exact G.size); intro v3' wn ho hg _; have kOn := kO.grown hg (own_blk_ne ow3 kO (by decide)).symm; refine hK.out _ _ kOn.l12 (fun hHeld => ?_); (clear hK K; (try simp only [Act.put, List.setIfInBounds_toArray, List.set_cons_zero, List.set_cons_succ])); clear k14; have ow2' := own_kept ow2' hg (own_row_ne ow2' ow3 (by decide)); have G := gro_row G ow3 hg; have ow3' : wn.ownsRow wl.heap.size 3 1 v3' (st.cs.length + 1) (intsV (st.cs.map Int.ofNat) ++ [.int .i64 (upN st.at_ d.align.toNat : Nat)]) := (by simpa using ho); have kD := kD.grown hg (own_blk_ne ow3 kD (by decide)).symm; clear ow3 kO ho hg; have kO := kOn; clear kOn; obtain ⟨B3, d3, rfl, _, _⟩ := own_form ow3'; obtain ⟨wv, hwv⟩ : ∃ x, x = wn := ⟨_, rfl⟩; rw [← hwv] at ow2' ow3' kO kD G hHeld ⊢; clear hwv)
                        (have s1 := kO.l12.1; have s2 := kO.l12.2; have u1 := kO.frozen 1; have u2 := kO.frozen 2; (refine wpAnyL_ready (rs := [11]) (by kernel_rfl) (by simp) ?_; refine List.forall_mem_cons.2 ⟨stepLate (o := { dst := none, op := Op.store 27 (Operand.tmp 141) (Operand.tmp 135), type := 0, pos := "images.go:48", after := #[{ on := 10, ground := Ground.data }, { on := 4, ground := Ground.data }, { on := 9, ground := Ground.chain }, { on := 0, ground := Ground.phase }, { on := 1, ground := Ground.phase }, { on := 2, ground := Ground.phase }, { on := 3, ground := Ground.phase }, { on := 4, ground := Ground.phase }, { on := 5, ground := Ground.phase }, { on := 6, ground := Ground.phase }, { on := 7, ground := Ground.textOnly Departure.lateStores }, { on := 8, ground := Ground.textOnly Departure.lateStores }, { on := 9, ground := Ground.textOnly Departure.lateStoresUnsure }], guard := none }) rfl (by rfl) (fun K hK => ?_), fun _ h => by cases h⟩; go_simp; refine hK.out _ _ ?_; (clear hK K; (try simp only [Act.put, List.setIfInBounds_toArray, List.set_cons_zero, List.set_cons_succ]))); (refine wpAnyL_ready (rs := [12]) (by kernel_rfl) (by simp) ?_; refine List.forall_mem_cons.2 ⟨stepLate (o := { dst := some 142, op := Op.fieldAddr 30 (Operand.tmp 6) 2, type := 0, pos := "images.go:48", after := #[{ on := 0, ground := Ground.phase }, { on := 1, ground := Ground.phase }, { on := 2, ground := Ground.phase }, { on := 3, ground := Ground.phase }, { on := 4, ground := Ground.phase }, { on := 5, ground := Ground.phase }, { on := 6, ground := Ground.phase }, { on := 7, ground := Ground.phase }, { on := 8, ground := Ground.phase }, { on := 9, ground := Ground.phase }, { on := 10, ground := Ground.phase }, { on := 11, ground := Ground.phase }], guard := none }) rfl (by rfl) (fun K hK => ?_), fun _ h => by cases h⟩; go_simp; refine hK.out _ _ ?_; (clear hK K; (try simp only [Act.put, List.setIfInBounds_toArray, List.set_cons_zero, List.set_cons_succ]))); (refine wpAnyL_ready (rs := [13]) (by kernel_rfl) (by simp) ?_; refine List.forall_mem_cons.2 ⟨stepLate (o := { dst := none, op := Op.store 26 (Operand.tmp 142) (Operand.tmp 140), type := 0, pos := "images.go:48", after := #[{ on := 12, ground := Ground.data }, { on := 9, ground := Ground.data }, { on := 11, ground := Ground.chain }, { on := 0, ground := Ground.phase }, { on := 1, ground := Ground.phase }, { on := 2, ground := Ground.phase }, { on := 3, ground := Ground.phase }, { on := 4, ground := Ground.phase }, { on := 5, ground := Ground.phase }, { on := 6, ground := Ground.phase }, { on := 7, ground := Ground.phase }, { on := 8, ground := Ground.phase }, { on := 9, ground := Ground.phase }, { on := 10, ground := Ground.phase }, { on := 11, ground := Ground.phase }], guard := none }) rfl (by rfl) (fun K hK => ?_), fun _ h => by cases h⟩; go_simp; refine hK.out _ _ ?_; (clear hK K; (try simp only [Act.put, List.setIfInBounds_toArray, List.set_cons_zero, List.set_cons_succ]))); refine wpAnyL_done (by kernel_rfl) ?_ _; go_wp2; go_meet; have kF := (kO.set_ 1 (.slice B2 (st.ns.length + 1) d2)).set_ 2 (.slice B3 (st.cs.length + 1) d3); rw [lcells_set1, lcells_set2] at kF; exact ⟨_, _, kF, own_setCell (own_setCell ow2' (own_blk_ne ow2' kO (by decide)) _) (own_blk_ne ow2' kO (by decide)) _, own_setCell (own_setCell ow3' (own_blk_ne ow3' kO (by decide)) _) (own_blk_ne ow3' kO (by decide)) _, gro_set (gro_set G _) _, (kD.far (kD.ne_ kO (by decide)) _).far (kD.ne_ kO (by decide)) _⟩)
                      · (refine stepL (o := { dst := some 139, op := Op.buildSlice 26 1 #[(0, Operand.tmp 138)], type := 26, pos := "images.go:48", after := #[{ on := 7, ground := Ground.data }], guard := none }) rfl (fun K hK => ?_); go_simp; refine hK.out _ _ ((kO.alloc (.cells #[.int .i64 (upN st.at_ d.align.toNat : Nat)] 3)).l12) (fun hHeld => ?_); (clear hK K; (try simp only [Act.put, List.setIfInBounds_toArray, List.set_cons_zero, List.set_cons_succ])); have k14 := Blk.new wv 3 #[.int .i64 (upN st.at_ d.align.toNat : Nat)]; (try have k7 := k7.alloc (.cells #[.int .i64 (upN st.at_ d.align.toNat : Nat)] 3)); have kO := kO.alloc (.cells #[.int .i64 (upN st.at_ d.align.toNat : Nat)] 3); have kD := kD.alloc (.cells #[.int .i64 (upN st.at_ d.align.toNat : Nat)] 3); (try have ow2 := ow2.alloc (.cells #[.int .i64 (upN st.at_ d.align.toNat : Nat)] 3)); (try have ow2' := ow2'.alloc (.cells #[.int .i64 (upN st.at_ d.align.toNat : Nat)] 3)); have ow3 := ow3.alloc (.cells #[.int .i64 (upN st.at_ d.align.toNat : Nat)] 3); have G := gro_alloc G (.cells #[.int .i64 (upN st.at_ d.align.toNat : Nat)] 3); obtain ⟨gi, hgi⟩ : ∃ g, g = wv.heap.size := ⟨_, rfl⟩; rw [← hgi] at k14 ⊢; clear hgi; obtain ⟨wv, hwv⟩ : ∃ x, x = wv.alloc (.cells #[.int .i64 (upN st.at_ d.align.toNat : Nat)] 3) := ⟨_, rfl⟩; rw [← hwv] at k14 ow3 kO kD G hHeld ⊢; (try rw [← hwv] at ow2); (try rw [← hwv] at ow2'); (try rw [← hwv] at k7); clear hwv)
                        (refine wpAnyL_ready (rs := [4]) (by kernel_rfl) (by simp) ?_; refine List.forall_mem_cons.2 ⟨?_, fun _ h => by cases h⟩)
                        (refine stepL (o := { dst := some 135, op := Op.call { callee := Callee.builtin Builtin.append, args := #[Operand.tmp 132, Operand.tmp 134], argTypes := #[27, 27] }, type := 27, pos := "images.go:48", after := #[{ on := 1, ground := Ground.data }, { on := 3, ground := Ground.data }], guard := none }) rfl (fun K hK => ?_); refine step_append_any _ rfl (.tmp 132) (.tmp 134) 27 rfl wl.heap.size 9 is (.string ⟨#[]⟩) 1 16 Tryd.underlying27 his hisz hiss hisb rfl (by decide) _ _ _ rfl ow2 _ (some ⟨gs, 0, none⟩) 1 1 [.string n] rfl (by simpa using k7.reads (size := 1) (n := 1) rfl) (by intro u hu; simp at hu; subst hu; rfl) ?c2 ?c3 ?c4 ?_; (case c2 => unfold maxLen; omega); (case c3 => omega); (case c4 => exact G.size); intro v2' wn ho hg _; have kOn := kO.grown hg (own_blk_ne ow2 kO (by decide)).symm; refine hK.out _ _ kOn.l12 (fun hHeld => ?_); (clear hK K; (try simp only [Act.put, List.setIfInBounds_toArray, List.set_cons_zero, List.set_cons_succ])); clear k7; (try have k14 := k14.grown hg (own_blk_ne ow2 k14 (by decide)).symm); have ow3 := own_kept ow3 hg (own_row_ne ow3 ow2 (by decide)); have G := gro_row G ow2 hg; have ow2' : wn.ownsRow wl.heap.size 9 1 v2' (st.ns.length + 1) (strsV st.ns ++ [.string n]) := (by simpa using ho); have kD := kD.grown hg (own_blk_ne ow2 kD (by decide)).symm; clear ow2 kO ho hg; have kO := kOn; clear kOn; obtain ⟨B2, d2, rfl, _, _⟩ := own_form ow2'; obtain ⟨wv, hwv⟩ : ∃ x, x = wn := ⟨_, rfl⟩; rw [← hwv] at ow2' ow3 kO kD G hHeld ⊢; (try rw [← hwv] at k14); clear hwv)
                        (refine wpAnyLU_take (i := 10) (oi := { dst := some 141, op := Op.fieldAddr 30 (Operand.tmp 6) 1, type := 0, pos := "images.go:48", after := #[{ on := 0, ground := Ground.phase }, { on := 1, ground := Ground.phase }, { on := 2, ground := Ground.phase }, { on := 3, ground := Ground.phase }, { on := 4, ground := Ground.phase }, { on := 5, ground := Ground.phase }, { on := 6, ground := Ground.phase }, { on := 7, ground := Ground.textOnly Departure.lateStores }, { on := 8, ground := Ground.textOnly Departure.lateStores }, { on := 9, ground := Ground.textOnly Departure.lateStoresUnsure }], guard := none }) (v := ?_) rfl (by kernel_rfl) (by kernel_rfl) (by kernel_rfl) (fun _ _ _ h => h) (Or.inl ⟨by rfl, ?_⟩) (by rfl) ?_; rotate_left; (focus (intro w hSw; go_simp; (try with_reducible rfl))); (try simp only [Act.put, List.setIfInBounds_toArray, List.set_cons_zero, List.set_cons_succ]))
                        (refine wpAnyL_ready (rs := [9]) (by kernel_rfl) (by simp) ?_; refine List.forall_mem_cons.2 ⟨?_, fun _ h => by cases h⟩)
                        (refine stepL (o := { dst := some 140, op := Op.call { callee := Callee.builtin Builtin.append, args := #[Operand.tmp 137, Operand.tmp 139], argTypes := #[26, 26] }, type := 26, pos := "images.go:48", after := #[{ on := 6, ground := Ground.data }, { on := 8, ground := Ground.data }, { on := 4, ground := Ground.chain }], guard := none }) rfl (fun K hK => ?_); refine step_append_any _ rfl (.tmp 137) (.tmp 139) 26 rfl wl.heap.size 3 ii (.int .i64 0) 1 8 Tryd.underlying26 hii hiiz hiis hiib rfl (by decide) _ _ _ rfl ow3 _ (some ⟨gi, 0, none⟩) 1 1 [.int .i64 (upN st.at_ d.align.toNat : Nat)] rfl (by simpa using k14.reads (size := 1) (n := 1) rfl) (by intro u hu; simp at hu; subst hu; rfl) ?c2 ?c3 ?c4 ?_; (case c2 => unfold maxLen; omega); (case c3 => omega); (case c4 => exact G.size); intro v3' wn ho hg _; have kOn := kO.grown hg (own_blk_ne ow3 kO (by decide)).symm; refine hK.out _ _ kOn.l12 (fun hHeld => ?_); (clear hK K; (try simp only [Act.put, List.setIfInBounds_toArray, List.set_cons_zero, List.set_cons_succ])); clear k14; have ow2' := own_kept ow2' hg (own_row_ne ow2' ow3 (by decide)); have G := gro_row G ow3 hg; have ow3' : wn.ownsRow wl.heap.size 3 1 v3' (st.cs.length + 1) (intsV (st.cs.map Int.ofNat) ++ [.int .i64 (upN st.at_ d.align.toNat : Nat)]) := (by simpa using ho); have kD := kD.grown hg (own_blk_ne ow3 kD (by decide)).symm; clear ow3 kO ho hg; have kO := kOn; clear kOn; obtain ⟨B3, d3, rfl, _, _⟩ := own_form ow3'; obtain ⟨wv, hwv⟩ : ∃ x, x = wn := ⟨_, rfl⟩; rw [← hwv] at ow2' ow3' kO kD G hHeld ⊢; clear hwv)
                        (have s1 := kO.l12.1; have s2 := kO.l12.2; have u1 := kO.frozen 1; have u2 := kO.frozen 2; (refine wpAnyL_ready (rs := [11]) (by kernel_rfl) (by simp) ?_; refine List.forall_mem_cons.2 ⟨stepLate (o := { dst := none, op := Op.store 27 (Operand.tmp 141) (Operand.tmp 135), type := 0, pos := "images.go:48", after := #[{ on := 10, ground := Ground.data }, { on := 4, ground := Ground.data }, { on := 9, ground := Ground.chain }, { on := 0, ground := Ground.phase }, { on := 1, ground := Ground.phase }, { on := 2, ground := Ground.phase }, { on := 3, ground := Ground.phase }, { on := 4, ground := Ground.phase }, { on := 5, ground := Ground.phase }, { on := 6, ground := Ground.phase }, { on := 7, ground := Ground.textOnly Departure.lateStores }, { on := 8, ground := Ground.textOnly Departure.lateStores }, { on := 9, ground := Ground.textOnly Departure.lateStoresUnsure }], guard := none }) rfl (by rfl) (fun K hK => ?_), fun _ h => by cases h⟩; go_simp; refine hK.out _ _ ?_; (clear hK K; (try simp only [Act.put, List.setIfInBounds_toArray, List.set_cons_zero, List.set_cons_succ]))); (refine wpAnyL_ready (rs := [12]) (by kernel_rfl) (by simp) ?_; refine List.forall_mem_cons.2 ⟨stepLate (o := { dst := some 142, op := Op.fieldAddr 30 (Operand.tmp 6) 2, type := 0, pos := "images.go:48", after := #[{ on := 0, ground := Ground.phase }, { on := 1, ground := Ground.phase }, { on := 2, ground := Ground.phase }, { on := 3, ground := Ground.phase }, { on := 4, ground := Ground.phase }, { on := 5, ground := Ground.phase }, { on := 6, ground := Ground.phase }, { on := 7, ground := Ground.phase }, { on := 8, ground := Ground.phase }, { on := 9, ground := Ground.phase }, { on := 10, ground := Ground.phase }, { on := 11, ground := Ground.phase }], guard := none }) rfl (by rfl) (fun K hK => ?_), fun _ h => by cases h⟩; go_simp; refine hK.out _ _ ?_; (clear hK K; (try simp only [Act.put, List.setIfInBounds_toArray, List.set_cons_zero, List.set_cons_succ]))); (refine wpAnyL_ready (rs := [13]) (by kernel_rfl) (by simp) ?_; refine List.forall_mem_cons.2 ⟨stepLate (o := { dst := none, op := Op.store 26 (Operand.tmp 142) (Operand.tmp 140), type := 0, pos := "images.go:48", after := #[{ on := 12, ground := Ground.data }, { on := 9, ground := Ground.data }, { on := 11, ground := Ground.chain }, { on := 0, ground := Ground.phase }, { on := 1, ground := Ground.phase }, { on := 2, ground := Ground.phase }, { on := 3, ground := Ground.phase }, { on := 4, ground := Ground.phase }, { on := 5, ground := Ground.phase }, { on := 6, ground := Ground.phase }, { on := 7, ground := Ground.phase }, { on := 8, ground := Ground.phase }, { on := 9, ground := Ground.phase }, { on := 10, ground := Ground.phase }, { on := 11, ground := Ground.phase }], guard := none }) rfl (by rfl) (fun K hK => ?_), fun _ h => by cases h⟩; go_simp; refine hK.out _ _ ?_; (clear hK K; (try simp only [Act.put, List.setIfInBounds_toArray, List.set_cons_zero, List.set_cons_succ]))); refine wpAnyL_done (by kernel_rfl) ?_ _; go_wp2; go_meet; have kF := (kO.set_ 1 (.slice B2 (st.ns.length + 1) d2)).set_ 2 (.slice B3 (st.cs.length + 1) d3); rw [lcells_set1, lcells_set2] at kF; exact ⟨_, _, kF, own_setCell (own_setCell ow2' (own_blk_ne ow2' kO (by decide)) _) (own_blk_ne ow2' kO (by decide)) _, own_setCell (own_setCell ow3' (own_blk_ne ow3' kO (by decide)) _) (own_blk_ne ow3' kO (by decide)) _, gro_set (gro_set G _) _, (kD.far (kD.ne_ kO (by decide)) _).far (kD.ne_ kO (by decide)) _⟩)
                    · (refine stepL (o := { dst := some 139, op := Op.buildSlice 26 1 #[(0, Operand.tmp 138)], type := 26, pos := "images.go:48", after := #[{ on := 7, ground := Ground.data }], guard := none }) rfl (fun K hK => ?_); go_simp; refine hK.out _ _ ((kO.alloc (.cells #[.int .i64 (upN st.at_ d.align.toNat : Nat)] 3)).l12) (fun hHeld => ?_); (clear hK K; (try simp only [Act.put, List.setIfInBounds_toArray, List.set_cons_zero, List.set_cons_succ])); have k14 := Blk.new wv 3 #[.int .i64 (upN st.at_ d.align.toNat : Nat)]; (try have k7 := k7.alloc (.cells #[.int .i64 (upN st.at_ d.align.toNat : Nat)] 3)); have kO := kO.alloc (.cells #[.int .i64 (upN st.at_ d.align.toNat : Nat)] 3); have kD := kD.alloc (.cells #[.int .i64 (upN st.at_ d.align.toNat : Nat)] 3); (try have ow2 := ow2.alloc (.cells #[.int .i64 (upN st.at_ d.align.toNat : Nat)] 3)); (try have ow2' := ow2'.alloc (.cells #[.int .i64 (upN st.at_ d.align.toNat : Nat)] 3)); have ow3 := ow3.alloc (.cells #[.int .i64 (upN st.at_ d.align.toNat : Nat)] 3); have G := gro_alloc G (.cells #[.int .i64 (upN st.at_ d.align.toNat : Nat)] 3); obtain ⟨gi, hgi⟩ : ∃ g, g = wv.heap.size := ⟨_, rfl⟩; rw [← hgi] at k14 ⊢; clear hgi; obtain ⟨wv, hwv⟩ : ∃ x, x = wv.alloc (.cells #[.int .i64 (upN st.at_ d.align.toNat : Nat)] 3) := ⟨_, rfl⟩; rw [← hwv] at k14 ow3 kO kD G hHeld ⊢; (try rw [← hwv] at ow2); (try rw [← hwv] at ow2'); (try rw [← hwv] at k7); clear hwv)
                      (refine wpAnyL_ready (rs := [3]) (by kernel_rfl) (by simp) ?_; refine List.forall_mem_cons.2 ⟨?_, fun _ h => by cases h⟩)
                      (refine stepL (o := { dst := some 134, op := Op.buildSlice 27 1 #[(0, Operand.tmp 133)], type := 27, pos := "images.go:48", after := #[{ on := 2, ground := Ground.data }], guard := none }) rfl (fun K hK => ?_); go_simp; refine hK.out _ _ ((kO.alloc (.cells #[.string n] 9)).l12) (fun hHeld => ?_); (clear hK K; (try simp only [Act.put, List.setIfInBounds_toArray, List.set_cons_zero, List.set_cons_succ])); have k7 := Blk.new wv 9 #[.string n]; (try have k14 := k14.alloc (.cells #[.string n] 9)); have kO := kO.alloc (.cells #[.string n] 9); have kD := kD.alloc (.cells #[.string n] 9); have ow2 := ow2.alloc (.cells #[.string n] 9); have ow3 := ow3.alloc (.cells #[.string n] 9); have G := gro_alloc G (.cells #[.string n] 9); obtain ⟨gs, hgs⟩ : ∃ g, g = wv.heap.size := ⟨_, rfl⟩; rw [← hgs] at k7 ⊢; clear hgs; obtain ⟨wv, hwv⟩ : ∃ x, x = wv.alloc (.cells #[.string n] 9) := ⟨_, rfl⟩; rw [← hwv] at k7 ow2 ow3 kO kD G hHeld ⊢; (try rw [← hwv] at k14); clear hwv)
                      (refine wpAnyL_ready (rs := [4]) (by kernel_rfl) (by simp) ?_; refine List.forall_mem_cons.2 ⟨?_, fun _ h => by cases h⟩)
                      (refine stepL (o := { dst := some 135, op := Op.call { callee := Callee.builtin Builtin.append, args := #[Operand.tmp 132, Operand.tmp 134], argTypes := #[27, 27] }, type := 27, pos := "images.go:48", after := #[{ on := 1, ground := Ground.data }, { on := 3, ground := Ground.data }], guard := none }) rfl (fun K hK => ?_); refine step_append_any _ rfl (.tmp 132) (.tmp 134) 27 rfl wl.heap.size 9 is (.string ⟨#[]⟩) 1 16 Tryd.underlying27 his hisz hiss hisb rfl (by decide) _ _ _ rfl ow2 _ (some ⟨gs, 0, none⟩) 1 1 [.string n] rfl (by simpa using k7.reads (size := 1) (n := 1) rfl) (by intro u hu; simp at hu; subst hu; rfl) ?c2 ?c3 ?c4 ?_; (case c2 => unfold maxLen; omega); (case c3 => omega); (case c4 => exact G.size); intro v2' wn ho hg _; have kOn := kO.grown hg (own_blk_ne ow2 kO (by decide)).symm; refine hK.out _ _ kOn.l12 (fun hHeld => ?_); (clear hK K; (try simp only [Act.put, List.setIfInBounds_toArray, List.set_cons_zero, List.set_cons_succ])); clear k7; (try have k14 := k14.grown hg (own_blk_ne ow2 k14 (by decide)).symm); have ow3 := own_kept ow3 hg (own_row_ne ow3 ow2 (by decide)); have G := gro_row G ow2 hg; have ow2' : wn.ownsRow wl.heap.size 9 1 v2' (st.ns.length + 1) (strsV st.ns ++ [.string n]) := (by simpa using ho); have kD := kD.grown hg (own_blk_ne ow2 kD (by decide)).symm; clear ow2 kO ho hg; have kO := kOn; clear kOn; obtain ⟨B2, d2, rfl, _, _⟩ := own_form ow2'; obtain ⟨wv, hwv⟩ : ∃ x, x = wn := ⟨_, rfl⟩; rw [← hwv] at ow2' ow3 kO kD G hHeld ⊢; (try rw [← hwv] at k14); clear hwv)
                      (refine wpAnyLU_take (i := 10) (oi := { dst := some 141, op := Op.fieldAddr 30 (Operand.tmp 6) 1, type := 0, pos := "images.go:48", after := #[{ on := 0, ground := Ground.phase }, { on := 1, ground := Ground.phase }, { on := 2, ground := Ground.phase }, { on := 3, ground := Ground.phase }, { on := 4, ground := Ground.phase }, { on := 5, ground := Ground.phase }, { on := 6, ground := Ground.phase }, { on := 7, ground := Ground.textOnly Departure.lateStores }, { on := 8, ground := Ground.textOnly Departure.lateStores }, { on := 9, ground := Ground.textOnly Departure.lateStoresUnsure }], guard := none }) (v := ?_) rfl (by kernel_rfl) (by kernel_rfl) (by kernel_rfl) (fun _ _ _ h => h) (Or.inl ⟨by rfl, ?_⟩) (by rfl) ?_; rotate_left; (focus (intro w hSw; go_simp; (try with_reducible rfl))); (try simp only [Act.put, List.setIfInBounds_toArray, List.set_cons_zero, List.set_cons_succ]))
                      (refine wpAnyL_ready (rs := [9]) (by kernel_rfl) (by simp) ?_; refine List.forall_mem_cons.2 ⟨?_, fun _ h => by cases h⟩)
                      (refine stepL (o := { dst := some 140, op := Op.call { callee := Callee.builtin Builtin.append, args := #[Operand.tmp 137, Operand.tmp 139], argTypes := #[26, 26] }, type := 26, pos := "images.go:48", after := #[{ on := 6, ground := Ground.data }, { on := 8, ground := Ground.data }, { on := 4, ground := Ground.chain }], guard := none }) rfl (fun K hK => ?_); refine step_append_any _ rfl (.tmp 137) (.tmp 139) 26 rfl wl.heap.size 3 ii (.int .i64 0) 1 8 Tryd.underlying26 hii hiiz hiis hiib rfl (by decide) _ _ _ rfl ow3 _ (some ⟨gi, 0, none⟩) 1 1 [.int .i64 (upN st.at_ d.align.toNat : Nat)] rfl (by simpa using k14.reads (size := 1) (n := 1) rfl) (by intro u hu; simp at hu; subst hu; rfl) ?c2 ?c3 ?c4 ?_; (case c2 => unfold maxLen; omega); (case c3 => omega); (case c4 => exact G.size); intro v3' wn ho hg _; have kOn := kO.grown hg (own_blk_ne ow3 kO (by decide)).symm; refine hK.out _ _ kOn.l12 (fun hHeld => ?_); (clear hK K; (try simp only [Act.put, List.setIfInBounds_toArray, List.set_cons_zero, List.set_cons_succ])); clear k14; have ow2' := own_kept ow2' hg (own_row_ne ow2' ow3 (by decide)); have G := gro_row G ow3 hg; have ow3' : wn.ownsRow wl.heap.size 3 1 v3' (st.cs.length + 1) (intsV (st.cs.map Int.ofNat) ++ [.int .i64 (upN st.at_ d.align.toNat : Nat)]) := (by simpa using ho); have kD := kD.grown hg (own_blk_ne ow3 kD (by decide)).symm; clear ow3 kO ho hg; have kO := kOn; clear kOn; obtain ⟨B3, d3, rfl, _, _⟩ := own_form ow3'; obtain ⟨wv, hwv⟩ : ∃ x, x = wn := ⟨_, rfl⟩; rw [← hwv] at ow2' ow3' kO kD G hHeld ⊢; clear hwv)
                      (have s1 := kO.l12.1; have s2 := kO.l12.2; have u1 := kO.frozen 1; have u2 := kO.frozen 2; (refine wpAnyL_ready (rs := [11]) (by kernel_rfl) (by simp) ?_; refine List.forall_mem_cons.2 ⟨stepLate (o := { dst := none, op := Op.store 27 (Operand.tmp 141) (Operand.tmp 135), type := 0, pos := "images.go:48", after := #[{ on := 10, ground := Ground.data }, { on := 4, ground := Ground.data }, { on := 9, ground := Ground.chain }, { on := 0, ground := Ground.phase }, { on := 1, ground := Ground.phase }, { on := 2, ground := Ground.phase }, { on := 3, ground := Ground.phase }, { on := 4, ground := Ground.phase }, { on := 5, ground := Ground.phase }, { on := 6, ground := Ground.phase }, { on := 7, ground := Ground.textOnly Departure.lateStores }, { on := 8, ground := Ground.textOnly Departure.lateStores }, { on := 9, ground := Ground.textOnly Departure.lateStoresUnsure }], guard := none }) rfl (by rfl) (fun K hK => ?_), fun _ h => by cases h⟩; go_simp; refine hK.out _ _ ?_; (clear hK K; (try simp only [Act.put, List.setIfInBounds_toArray, List.set_cons_zero, List.set_cons_succ]))); (refine wpAnyL_ready (rs := [12]) (by kernel_rfl) (by simp) ?_; refine List.forall_mem_cons.2 ⟨stepLate (o := { dst := some 142, op := Op.fieldAddr 30 (Operand.tmp 6) 2, type := 0, pos := "images.go:48", after := #[{ on := 0, ground := Ground.phase }, { on := 1, ground := Ground.phase }, { on := 2, ground := Ground.phase }, { on := 3, ground := Ground.phase }, { on := 4, ground := Ground.phase }, { on := 5, ground := Ground.phase }, { on := 6, ground := Ground.phase }, { on := 7, ground := Ground.phase }, { on := 8, ground := Ground.phase }, { on := 9, ground := Ground.phase }, { on := 10, ground := Ground.phase }, { on := 11, ground := Ground.phase }], guard := none }) rfl (by rfl) (fun K hK => ?_), fun _ h => by cases h⟩; go_simp; refine hK.out _ _ ?_; (clear hK K; (try simp only [Act.put, List.setIfInBounds_toArray, List.set_cons_zero, List.set_cons_succ]))); (refine wpAnyL_ready (rs := [13]) (by kernel_rfl) (by simp) ?_; refine List.forall_mem_cons.2 ⟨stepLate (o := { dst := none, op := Op.store 26 (Operand.tmp 142) (Operand.tmp 140), type := 0, pos := "images.go:48", after := #[{ on := 12, ground := Ground.data }, { on := 9, ground := Ground.data }, { on := 11, ground := Ground.chain }, { on := 0, ground := Ground.phase }, { on := 1, ground := Ground.phase }, { on := 2, ground := Ground.phase }, { on := 3, ground := Ground.phase }, { on := 4, ground := Ground.phase }, { on := 5, ground := Ground.phase }, { on := 6, ground := Ground.phase }, { on := 7, ground := Ground.phase }, { on := 8, ground := Ground.phase }, { on := 9, ground := Ground.phase }, { on := 10, ground := Ground.phase }, { on := 11, ground := Ground.phase }], guard := none }) rfl (by rfl) (fun K hK => ?_), fun _ h => by cases h⟩; go_simp; refine hK.out _ _ ?_; (clear hK K; (try simp only [Act.put, List.setIfInBounds_toArray, List.set_cons_zero, List.set_cons_succ]))); refine wpAnyL_done (by kernel_rfl) ?_ _; go_wp2; go_meet; have kF := (kO.set_ 1 (.slice B2 (st.ns.length + 1) d2)).set_ 2 (.slice B3 (st.cs.length + 1) d3); rw [lcells_set1, lcells_set2] at kF; exact ⟨_, _, kF, own_setCell (own_setCell ow2' (own_blk_ne ow2' kO (by decide)) _) (own_blk_ne ow2' kO (by decide)) _, own_setCell (own_setCell ow3' (own_blk_ne ow3' kO (by decide)) _) (own_blk_ne ow3' kO (by decide)) _, gro_set (gro_set G _) _, (kD.far (kD.ne_ kO (by decide)) _).far (kD.ne_ kO (by decide)) _⟩)
                  case rest =>
                    clear kO kD ow2 ow3 G y4
                    obtain ⟨v2', v3', kO, ow2, ow3, G, kD⟩ := hcut
                    have y4 : wc.cell? ⟨gD, 4, none⟩ = some (.int .i64 d.size) := kD.cell 4
                    go_wp2_with fail
                    go_roundw
                    case rel => exact ⟨k + 1, v2', v3', ⟨upN st.at_ d.align.toNat + d.size.toNat, st.ns ++ [n], st.cs ++ [upN st.at_ d.align.toNat]⟩, by omega, by go_num, by go_num, Lib.hid HN'.out.symm, kO, by rw [List.length_append, strsV_append]; exact ow2, by rw [List.length_append, List.map_append]; unfold intsV; rw [List.map_append]; exact ow3, G⟩
                    case measure => simp [intOf]; omega
                · have HN' := Lib.hid (HN.out.trans (comStep_no hno))
                  obtain ⟨⟨d, x⟩, hd⟩ : ∃ r, findL p.dfs n = r := ⟨_, rfl⟩
                  rw [hd] at hno ⊢
                  dsimp only at hno ⊢
                  clear hd HN
                  go_upto_region 30 with (fail)
                  have kD := Blk.new w7 70 #[.string d.name, .int .i64 d.kind, .int .i64 d.frag, .int .i64 d.at_, .int .i64 d.size, .int .i64 d.align]
                  have kO := kO1.alloc (.cells #[.string d.name, .int .i64 d.kind, .int .i64 d.frag, .int .i64 d.at_, .int .i64 d.size, .int .i64 d.align] 70)
                  have ow2 := o21.alloc (.cells #[.string d.name, .int .i64 d.kind, .int .i64 d.frag, .int .i64 d.at_, .int .i64 d.size, .int .i64 d.align] 70)
                  have ow3 := o31.alloc (.cells #[.string d.name, .int .i64 d.kind, .int .i64 d.frag, .int .i64 d.at_, .int .i64 d.size, .int .i64 d.align] 70)
                  have G := gro_alloc G1 (.cells #[.string d.name, .int .i64 d.kind, .int .i64 d.frag, .int .i64 d.at_, .int .i64 d.size, .int .i64 d.align] 70)
                  obtain ⟨gD, hgD⟩ : ∃ g, g = w7.heap.size := ⟨_, rfl⟩
                  obtain ⟨W2, hW2⟩ : ∃ W, W = w7.alloc (.cells #[.string d.name, .int .i64 d.kind, .int .i64 d.frag, .int .i64 d.at_, .int .i64 d.size, .int .i64 d.align] 70) := ⟨_, rfl⟩
                  rw [← hgD] at kD ⊢
                  rw [← hW2] at kD kO ow2 ow3 G ⊢
                  clear hW2 hgD kO1 o21 o31 G1
                  have y1 := kD.cell 1
                  by_cases hx : x = 0
                  · subst hx
                    have hk3 : (d.kind == 3) = false := by simpa using hno
                    go_wp2_with fail
                    go_roundw
                    case rel => exact ⟨k + 1, v2, v3, st, by omega, by go_num, rfl, Lib.hid HN'.out.symm, kO, ow2, ow3, G⟩
                    case measure => simp [intOf]; omega
                  · have hx0 : (x == 0) = false := by simpa using hx
                    go_wp2_with fail
                    go_roundw
                    case rel => exact ⟨k + 1, v2, v3, st, by omega, by go_num, rfl, Lib.hid HN'.out.symm, kO, ow2, ow3, G⟩
                    case measure => simp [intOf]; omega
              · obtain rfl : k = L.length := by omega
                rw [List.take_length] at hst
                have HS : Hid (st = layEnd p.er base) := by
                  show _ = _
                  rw [hst.out, ← HL.out, ← HA.out, H5.out]
                  rfl
                have t9 : wr.cell? ⟨gO, 9 + s, none⟩ = some (.int .i64 0) := (kO.cell _).trans (lcells_get9 (sixAt_len _ _) (sixAt_get _ hs1 hs5))
                have f9 := kO.frozen (9 + s)
                have hF := hIl.f.grown G (by intro e; injection e with e; omega)
                have hbe := hIl.be.trans (hbr.mono (by omega))
                have o4 : gO < wr.heap.size := by omega
                have ow2 := ow2.mono hzB
                have ow3 := ow3.mono hzB
                clear hst kPr hAr hr
                go_wp2_with fail
                go_roundw
                case rel =>
                  refine ⟨s + 1, v2, v3, by omega, by omega, by go_num, by rw [Nat.add_sub_cancel, H5.out, toN_five, ← HS.out], ?_, ?_, fun h => absurd h (by have := H5.out; omega), fun _ => by rw [← HS.out]; exact own_setCell ow2 (own_blk_ne ow2 kO (by decide)) _, fun _ => by rw [← HS.out]; exact own_setCell ow3 (own_blk_ne ow3 kO (by decide)) _, hbe.setCell (by simp only; omega) _, by simpa [World.setCell] using o4⟩
                  · have o := kO.set_ (9 + s) (.int .i64 (st.at_ : Nat))
                    rw [List.setIfInBounds_toArray, lcells_to (sixAt_len _ _), show (st.at_ : Int) = ((toN p.er base s : Nat) : Int) by rw [HS.out, H5.out, toN_five], sixAt_put _ hs1 hs5] at o
                    rw [show (st.at_ : Int) = ((toN p.er base s : Nat) : Int) by rw [HS.out, H5.out, toN_five]]
                    exact o
                  · have e := frAt_next (fs := p.er.frs) (base := base) (s := s)
                    rw [HLL.out] at e
                    show Blk _ _ _ (intsV (frAt p.er.frs base ((s : Int) + 1) 0)).toArray
                    rw [← e]
                    exact hF.far (by simp only; omega) _
                case measure => simp [intOf]; omega
          · have q5 : ((s : Int) == 5) = false := by simp; omega
            have HT : Hid (toN p.er base s = secEnd p.er.frs base s) := toN_other _ _ h5
            have h4 : s + 1 ≤ 5 := by omega
            clear h5
            go_wp2_with fail
            go_roundw
            case rel =>
              refine ⟨s + 1, _, _, by omega, by omega, by go_num, by rw [Nat.add_sub_cancel, HT.out], ?_, ?_, fun _ => ⟨rfl, rfl⟩, fun h => by omega, fun h => by omega, hI.be.setCell (by simp only; omega) _, by simpa [World.setCell] using hI.sz⟩
              · have o := hI.o.set_ (9 + s) (.int .i64 (secEnd p.er.frs base s : Nat))
                rw [← HT.out, List.setIfInBounds_toArray, lcells_to (sixAt_len _ _), sixAt_put _ hs1 hs5] at o
                rw [← HT.out]
                exact o
              · have e := frAt_next (fs := p.er.frs) (base := base) (s := s)
                rw [HLL.out] at e
                show Blk _ _ _ (intsV (frAt p.er.frs base ((s : Int) + 1) 0)).toArray
                rw [← e]
                exact hI.f.far (by simp only; omega) _
            case measure => simp [intOf]; omega
end Go.Proofs.YtmlomnhjbmocfaaDoor
