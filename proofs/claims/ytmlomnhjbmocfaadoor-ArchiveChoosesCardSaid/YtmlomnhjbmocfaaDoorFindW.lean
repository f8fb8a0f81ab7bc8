/- names.Find: what it computes. -/
import Derived.Test.YtmlomnhjbmocfaaDoorBA
import Derived.Test.YtmlomnhjbmocfaaDoorCheckW
import Derived.Test.YtmlomnhjbmocfaaDoorBC
import Derived.BigRegion
set_option linter.all false
namespace Go.Proofs.YtmlomnhjbmocfaaDoor
open Go.RowKit

theorem findW0 (p : PtM) (w : World) : Blk (((w.alloc (.cells #[.slice (p).fa (p).frs.length (p).fc, .slice (p).da (p).dfs.length (p).dc] 25)).alloc (.cells #[.string ⟨#[]⟩, .int .i64 0, .int .i64 0, .int .i64 0, .int .i64 0, .int .i64 0] 70)).alloc (.cells #[.string ⟨#[]⟩, .int .i64 0, .int .i64 0, .int .i64 0, .int .i64 0, .int .i64 0] 70)) w.heap.size 25 #[.slice p.fa p.frs.length p.fc, .slice p.da p.dfs.length p.dc] ∧ Blk (((w.alloc (.cells #[.slice (p).fa (p).frs.length (p).fc, .slice (p).da (p).dfs.length (p).dc] 25)).alloc (.cells #[.string ⟨#[]⟩, .int .i64 0, .int .i64 0, .int .i64 0, .int .i64 0, .int .i64 0] 70)).alloc (.cells #[.string ⟨#[]⟩, .int .i64 0, .int .i64 0, .int .i64 0, .int .i64 0, .int .i64 0] 70)) (w.heap.size + 1) 70 #[.string ⟨#[]⟩, .int .i64 0, .int .i64 0, .int .i64 0, .int .i64 0, .int .i64 0] ∧
    Blk (((w.alloc (.cells #[.slice (p).fa (p).frs.length (p).fc, .slice (p).da (p).dfs.length (p).dc] 25)).alloc (.cells #[.string ⟨#[]⟩, .int .i64 0, .int .i64 0, .int .i64 0, .int .i64 0, .int .i64 0] 70)).alloc (.cells #[.string ⟨#[]⟩, .int .i64 0, .int .i64 0, .int .i64 0, .int .i64 0, .int .i64 0] 70)) (w.heap.size + 2) 70 #[.string ⟨#[]⟩, .int .i64 0, .int .i64 0, .int .i64 0, .int .i64 0, .int .i64 0] ∧ Below w.heap.size w (((w.alloc (.cells #[.slice (p).fa (p).frs.length (p).fc, .slice (p).da (p).dfs.length (p).dc] 25)).alloc (.cells #[.string ⟨#[]⟩, .int .i64 0, .int .i64 0, .int .i64 0, .int .i64 0, .int .i64 0] 70)).alloc (.cells #[.string ⟨#[]⟩, .int .i64 0, .int .i64 0, .int .i64 0, .int .i64 0, .int .i64 0] 70)) ∧ (((w.alloc (.cells #[.slice (p).fa (p).frs.length (p).fc, .slice (p).da (p).dfs.length (p).dc] 25)).alloc (.cells #[.string ⟨#[]⟩, .int .i64 0, .int .i64 0, .int .i64 0, .int .i64 0, .int .i64 0] 70)).alloc (.cells #[.string ⟨#[]⟩, .int .i64 0, .int .i64 0, .int .i64 0, .int .i64 0, .int .i64 0] 70)).heap.size = w.heap.size + 3 :=
  ⟨((Blk.new' _ _ _ rfl).alloc _).alloc _, (Blk.new' _ _ _ (by simp)).alloc _, Blk.new' _ _ _ (by simp), by (repeat' (first | exact Below.refl _ _ | assumption | refine Below.setCell ?_ (by first | omega | exact Below.size (by assumption) | (simp; done) | (simp; omega)) _ | refine Below.alloc ?_ (by first | omega | exact Below.size (by assumption) | (simp; done) | (simp; omega)) _ | refine Below.drew ?_ | refine below_drewN ?_ _)), by simp⟩

section
variable {w : World} {g c : Nat} {t : TypeId} {a0 a1 a2 a3 a4 a5 : Value} {cs : Array Value}
theorem set6 (k : Blk w g t #[a0, a1, a2, a3, a4, a5]) (v0 v1 v2 v3 v4 v5 : Value) : Blk ((((((w.setCell ⟨g, 0, none⟩ v0).setCell ⟨g, 1, none⟩ v1).setCell ⟨g, 2, none⟩ v2).setCell ⟨g, 3, none⟩ v3).setCell ⟨g, 4, none⟩ v4).setCell ⟨g, 5, none⟩ v5) g t #[v0, v1, v2, v3, v4, v5] := (((((k.set_ 0 v0).set_ 1 v1).set_ 2 v2).set_ 3 v3).set_ 4 v4).set_ 5 v5
theorem far6 (k : Blk w c t cs) (hne : c ≠ g) (v0 v1 v2 v3 v4 v5 : Value) : Blk ((((((w.setCell ⟨g, 0, none⟩ v0).setCell ⟨g, 1, none⟩ v1).setCell ⟨g, 2, none⟩ v2).setCell ⟨g, 3, none⟩ v3).setCell ⟨g, 4, none⟩ v4).setCell ⟨g, 5, none⟩ v5) c t cs :=
  (((((k.far (p := ⟨g, 0, none⟩) hne v0).far (p := ⟨g, 1, none⟩) hne v1).far (p := ⟨g, 2, none⟩) hne v2).far (p := ⟨g, 3, none⟩) hne v3).far (p := ⟨g, 4, none⟩) hne v4).far (p := ⟨g, 5, none⟩) hne v5
theorem below6 {B : Nat} {w0 : World} (h : Below B w0 w) (hB : B ≤ g) (v0 v1 v2 v3 v4 v5 : Value) : Below B w0 ((((((w.setCell ⟨g, 0, none⟩ v0).setCell ⟨g, 1, none⟩ v1).setCell ⟨g, 2, none⟩ v2).setCell ⟨g, 3, none⟩ v3).setCell ⟨g, 4, none⟩ v4).setCell ⟨g, 5, none⟩ v5) :=
  (((((h.setCell (p := ⟨g, 0, none⟩) hB v0).setCell (p := ⟨g, 1, none⟩) hB v1).setCell (p := ⟨g, 2, none⟩) hB v2).setCell (p := ⟨g, 3, none⟩) hB v3).setCell (p := ⟨g, 4, none⟩) hB v4).setCell (p := ⟨g, 5, none⟩) hB v5
end
theorem bytes_inj {a b : ByteArray} (h : a.toList = b.toList) : a = b := by
  rw [ByteArray.toList_eq, ByteArray.toList_eq] at h
  cases a; cases b
  simp only at h
  rw [Array.toList_inj.1 h]
theorem fe_eq {a b : ByteArray} (h : a = b) : (a.toList == b.toList) = true := by simp [h]
theorem fe_ne {a b : ByteArray} (h : a ≠ b) : (a.toList == b.toList) = false := by
  rw [beq_eq_false_iff_ne]
  exact fun e => h (bytes_inj e)
theorem stepA {s : ByteArray} {b d : Df} (hn : d.name = s) (h1 : d.kind = 1) (h2 : b.kind = 1) : findStep s (b, false) d = (.zero, true) := by simp [findStep, hn, h1, h2]
theorem stepB {s : ByteArray} {b d : Df} (hn : d.name = s) (h1 : ¬ (d.kind = 1 ∧ b.kind = 1)) (h2 : b.kind = 0 ∨ d.kind = 1 ∨ (d.kind = 3 ∧ b.kind = 2)) : findStep s (b, false) d = (d, false) := by
  unfold findStep
  rw [if_neg (by simp), if_neg (by simp [hn]), if_neg h1, if_pos h2]
theorem stepC {s : ByteArray} {b d : Df} (hn : d.name = s) (h1 : d.kind = 3) (h2 : b.kind = 3) : findStep s (b, false) d = ({ b with size := max b.size d.size, align := max b.align d.align }, false) := by simp [findStep, hn, h1, h2]
theorem stepD {s : ByteArray} {b d : Df} (h : d.name ≠ s ∨ (¬ (d.kind = 1 ∧ b.kind = 1) ∧ ¬ (b.kind = 0 ∨ d.kind = 1 ∨ (d.kind = 3 ∧ b.kind = 2)) ∧ ¬ (d.kind = 3 ∧ b.kind = 3))) : findStep s (b, false) d = (b, false) := by
  unfold findStep
  rw [if_neg (by simp)]
  by_cases hn : d.name = s
  · rw [if_neg (by simp [hn])]
    rcases h with h | ⟨h1, h2, h3⟩
    · exact absurd hn h
    · rw [if_neg h1, if_neg h2, if_neg h3]
  · rw [if_pos hn]
theorem if_max (a b : Int) : (if a < b then b else a) = max a b := by split <;> omega
theorem fold_twice (s : ByteArray) : ∀ l : List Df, l.foldl (findStep s) (.zero, true) = (.zero, true)
  | [] => rfl
  | d :: r => by rw [List.foldl_cons, show findStep s (.zero, true) d = (.zero, true) from rfl]; exact fold_twice s r
theorem findL_twice {s : ByteArray} {l : List Df} {k : Nat} (h : (l.take k).foldl (findStep s) (.zero, false) = (.zero, true)) : findL l s = (.zero, 6) := by
  unfold findL findSt
  conv => lhs; rw [← List.take_append_drop k l]
  rw [List.foldl_append, h, fold_twice]; rfl

set_option maxHeartbeats 8000000 in
set_option maxRecDepth 100000 in
theorem find_any (p : PtM) (s : ByteArray) (w : World) (h : p.At w w.heap.size) :
    Calls Tryd.prog 79 #[.agg #[.slice p.fa p.frs.length p.fc, .slice p.da p.dfs.length p.dc], .string s] w
      fun e w' => e = .returned (.tuple #[.agg #[.string ((findL p.dfs s).1).name, .int .i64 ((findL p.dfs s).1).kind, .int .i64 ((findL p.dfs s).1).frag, .int .i64 ((findL p.dfs s).1).at_, .int .i64 ((findL p.dfs s).1).size, .int .i64 ((findL p.dfs s).1).align], .int .i64 (findL p.dfs s).2]) ∧ Below w.heap.size w w' := by
  obtain ⟨hf, he, hd, hfm, hdm⟩ := h
  obtain ⟨kP, kR, kB, hb, hz⟩ := findW0 p w
  obtain ⟨frs, dfs, fa, fc, da, dc⟩ := p
  simp only at *
  go_enter Tryd.func79, Tryd.ntmps79
  go_wp2_with fail
  obtain ⟨W0, hW0⟩ : ∃ W, W = (((w.alloc (.cells #[.slice fa frs.length fc, .slice da dfs.length dc] 25)).alloc (.cells #[.string ⟨#[]⟩, .int .i64 0, .int .i64 0, .int .i64 0, .int .i64 0, .int .i64 0] 70)).alloc (.cells #[.string ⟨#[]⟩, .int .i64 0, .int .i64 0, .int .i64 0, .int .i64 0, .int .i64 0] 70)) := ⟨_, rfl⟩
  rw [← hW0] at kP kR kB hb hz ⊢
  clear hW0
  obtain ⟨gB, hgB⟩ : ∃ g, g = w.heap.size + 1 + 1 := ⟨_, rfl⟩
  obtain ⟨gR, hgR⟩ : ∃ g, g = w.heap.size + 1 := ⟨_, rfl⟩
  rw [← hgB, ← hgR]
  rw [show w.heap.size + 2 = gB from hgB.symm] at kB
  rw [show w.heap.size + 1 = gR from hgR.symm] at kR
  have n1 : w.heap.size < gR := by omega
  have n2 : gR < gB := by omega
  have n3 : gB < W0.heap.size := by omega
  clear hgB hgR hz
  go_loopw [12] (fun i wr => ∃ (k : Nat) (b : Df), k ≤ dfs.length ∧ i = .int .i64 k ∧ Hid ((dfs.take k).foldl (findStep s) (.zero, false) = (b, false)) ∧ Blk wr w.heap.size 25 #[.slice fa frs.length fc, .slice da dfs.length dc] ∧
    Blk wr gR 70 #[.string ⟨#[]⟩, .int .i64 0, .int .i64 0, .int .i64 0, .int .i64 0, .int .i64 0] ∧ Blk wr gB 70 #[.string (b).name, .int .i64 (b).kind, .int .i64 (b).frag, .int .i64 (b).at_, .int .i64 (b).size, .int .i64 (b).align] ∧ Below w.heap.size w wr) (fun i _ => dfs.length - (intOf i).toNat)
  case atStart => exact ⟨0, .zero, Nat.zero_le _, rfl, Lib.hid rfl, kP, kR, kB, hb⟩
  case round =>
    clear kP kR kB hb
    obtain ⟨k, b, hk, rfl, hJ, kP, kR, kB, hb⟩ := hrel
    have z0 := kB.lt
    by_cases hlt : k < dfs.length
    · obtain ⟨d, hd'⟩ : ∃ d, dfs[k]? = some d := ⟨_, List.getElem?_eq_getElem hlt⟩
      obtain ⟨b', off, rfl, bl, c0, c1, c2, c3, c4, c5⟩ := df_get (hd.below hb) hd'
      have HN : Hid ((dfs.take (k + 1)).foldl (findStep s) (.zero, false) = findStep s (b, false) d) := by
        show _ = _
        rw [List.take_add_one, hd', List.foldl_append, hJ.out]; rfl
      clear hd'
      go_upto_region 5 with (fail)
      have kP2 := kP.alloc (.cells #[.string d.name, .int .i64 d.kind, .int .i64 d.frag, .int .i64 d.at_, .int .i64 d.size, .int .i64 d.align] 70)
      have kR2 := kR.alloc (.cells #[.string d.name, .int .i64 d.kind, .int .i64 d.frag, .int .i64 d.at_, .int .i64 d.size, .int .i64 d.align] 70)
      have kB2 := kB.alloc (.cells #[.string d.name, .int .i64 d.kind, .int .i64 d.frag, .int .i64 d.at_, .int .i64 d.size, .int .i64 d.align] 70)
      have kD := Blk.new wr 70 #[.string (d).name, .int .i64 (d).kind, .int .i64 (d).frag, .int .i64 (d).at_, .int .i64 (d).size, .int .i64 (d).align]
      have hb2 := hb.alloc hb.size (.cells #[.string d.name, .int .i64 d.kind, .int .i64 d.frag, .int .i64 d.at_, .int .i64 d.size, .int .i64 d.align] 70)
      obtain ⟨W2, hW2⟩ : ∃ W, W = wr.alloc (.cells #[.string d.name, .int .i64 d.kind, .int .i64 d.frag, .int .i64 d.at_, .int .i64 d.size, .int .i64 d.align] 70) := ⟨_, rfl⟩
      rw [← hW2] at kP2 kR2 kB2 kD hb2 ⊢
      clear hW2 kP kR kB hb c0 c1 c2 c3 c4 c5 bl
      have f0 := kD.cell 0
      have f1 := kD.cell 1
      have f2 := kD.cell 2
      have f3 := kD.cell 3
      have f4 := kD.cell 4
      have f5 := kD.cell 5
      have b0 := kB2.cell 0
      have b1 := kB2.cell 1
      have b2 := kB2.cell 2
      have b3 := kB2.cell 3
      have b4 := kB2.cell 4
      have b5 := kB2.cell 5
      have x0 := kB2.frozen 0
      have x1 := kB2.frozen 1
      have x2 := kB2.frozen 2
      have x3 := kB2.frozen 3
      have x4 := kB2.frozen 4
      have x5 := kB2.frozen 5
      by_cases hn : d.name = s
      · have e0 := fe_eq hn
        replace hn := Lib.hid hn
        by_cases d1 : d.kind = 1
        · have q1 : (d.kind == 1) = true := by simp [d1]
          replace d1 := Lib.hid d1
          by_cases b1' : b.kind = 1
          · have q2 : (b.kind == 1) = true := by simp [b1']
            replace b1' := Lib.hid b1'
            have HR : Hid (findL dfs s = (.zero, 6)) := by
              show _ = _
              refine findL_twice (k := k + 1) ?_
              rw [HN.out, stepA hn.out d1.out b1'.out]
            have kRf := set6 kR2 (.string ⟨#[]⟩) (.int .i64 0) (.int .i64 0) (.int .i64 0) (.int .i64 0) (.int .i64 0)
            have hbf := below6 hb2 (Nat.le_of_lt n1) (.string ⟨#[]⟩) (.int .i64 0) (.int .i64 0) (.int .i64 0) (.int .i64 0) (.int .i64 0)
            have y0 := kR2.cell 0
            have y1 := kR2.cell 1
            have y2 := kR2.cell 2
            have y3 := kR2.cell 3
            have y4 := kR2.cell 4
            have y5 := kR2.cell 5
            have u0 := kR2.frozen 0
            have u1 := kR2.frozen 1
            have u2 := kR2.frozen 2
            have u3 := kR2.frozen 3
            have u4 := kR2.frozen 4
            have u5 := kR2.frozen 5
            have r0 := kRf.cell 0
            have r1 := kRf.cell 1
            have r2 := kRf.cell 2
            have r3 := kRf.cell 3
            have r4 := kRf.cell 4
            have r5 := kRf.cell 5
            clear hn d1 b1' HN kRf
            go_wp2
            refine bodyPost_ret (v := .tuple #[.agg #[.string ⟨#[]⟩, .int .i64 0, .int .i64 0, .int .i64 0, .int .i64 0, .int .i64 0], .int .i64 6]) (by simp [results, Tryd.results79, go_sem, r0, r1, r2, r3, r4, r5]) rfl ⟨by rw [HR.out]; rfl, hbf⟩
          · have q2 : (b.kind == 1) = false := by simp [b1']
            replace b1' := Lib.hid b1'
            by_cases b0' : b.kind = 0
            · have q3 : (b.kind == 0) = true := by simp [b0']
              replace b0' := Lib.hid b0'
              (have HN3 : Hid ((dfs.take (k + 1)).foldl (findStep s) (.zero, false) = (d, false)) := (by show _ = _; rw [HN.out, stepB hn.out (fun h => b1'.out h.2) (.inl b0'.out)]); clear HN; go_wp2; go_roundw; (case rel => exact ⟨k + 1, d, by omega, by go_num, HN3, far6 kP2 (by omega) _ _ _ _ _ _, far6 kR2 (by omega) _ _ _ _ _ _, set6 kB2 _ _ _ _ _ _, below6 hb2 (by omega) _ _ _ _ _ _⟩); (case measure => simp [intOf]; omega))
            · have q3 : (b.kind == 0) = false := by simp [b0']
              replace b0' := Lib.hid b0'
              (have HN3 : Hid ((dfs.take (k + 1)).foldl (findStep s) (.zero, false) = (d, false)) := (by show _ = _; rw [HN.out, stepB hn.out (fun h => b1'.out h.2) (.inr (.inl d1.out))]); clear HN; go_wp2; go_roundw; (case rel => exact ⟨k + 1, d, by omega, by go_num, HN3, far6 kP2 (by omega) _ _ _ _ _ _, far6 kR2 (by omega) _ _ _ _ _ _, set6 kB2 _ _ _ _ _ _, below6 hb2 (by omega) _ _ _ _ _ _⟩); (case measure => simp [intOf]; omega))
        · have q1 : (d.kind == 1) = false := by simp [d1]
          replace d1 := Lib.hid d1
          by_cases b0' : b.kind = 0
          · have q3 : (b.kind == 0) = true := by simp [b0']
            replace b0' := Lib.hid b0'
            (have HN3 : Hid ((dfs.take (k + 1)).foldl (findStep s) (.zero, false) = (d, false)) := (by show _ = _; rw [HN.out, stepB hn.out (fun h => d1.out h.1) (.inl b0'.out)]); clear HN; go_wp2; go_roundw; (case rel => exact ⟨k + 1, d, by omega, by go_num, HN3, far6 kP2 (by omega) _ _ _ _ _ _, far6 kR2 (by omega) _ _ _ _ _ _, set6 kB2 _ _ _ _ _ _, below6 hb2 (by omega) _ _ _ _ _ _⟩); (case measure => simp [intOf]; omega))
          · have q3 : (b.kind == 0) = false := by simp [b0']
            replace b0' := Lib.hid b0'
            by_cases d3 : d.kind = 3
            · have q4 : (d.kind == 3) = true := by simp [d3]
              replace d3 := Lib.hid d3
              by_cases b2' : b.kind = 2
              · have q5 : (b.kind == 2) = true := by simp [b2']
                replace b2' := Lib.hid b2'
                (have HN3 : Hid ((dfs.take (k + 1)).foldl (findStep s) (.zero, false) = (d, false)) := (by show _ = _; rw [HN.out, stepB hn.out (fun h => d1.out h.1) (.inr (.inr ⟨d3.out, b2'.out⟩))]); clear HN; go_wp2; go_roundw; (case rel => exact ⟨k + 1, d, by omega, by go_num, HN3, far6 kP2 (by omega) _ _ _ _ _ _, far6 kR2 (by omega) _ _ _ _ _ _, set6 kB2 _ _ _ _ _ _, below6 hb2 (by omega) _ _ _ _ _ _⟩); (case measure => simp [intOf]; omega))
              · have q5 : (b.kind == 2) = false := by simp [b2']
                replace b2' := Lib.hid b2'
                by_cases b3' : b.kind = 3
                · have q6 : (b.kind == 3) = true := by simp [b3']
                  replace b3' := Lib.hid b3'
                  have HN3 : Hid ((dfs.take (k + 1)).foldl (findStep s) (.zero, false) = ({ b with size := max b.size d.size, align := max b.align d.align }, false)) := by
                    show _ = _
                    rw [HN.out, stepC hn.out d3.out b3'.out]
                  clear hn d1 b0' d3 b2' b3' HN
                  go_upto_region 13 with (fail)
                  go_region
                  go_wp2
                  go_roundw
                  case rel =>
                    refine ⟨k + 1, { b with size := max b.size d.size, align := max b.align d.align }, by omega, by go_num, HN3, ?_, ?_, ?_, ?_⟩
                    · exact ((kP2.far (p := ⟨gB, 4, none⟩) (by simp only; omega) _).far (p := ⟨gB, 5, none⟩) (by simp only; omega) _).drew
                    · exact ((kR2.far (p := ⟨gB, 4, none⟩) (by simp only; omega) _).far (p := ⟨gB, 5, none⟩) (by simp only; omega) _).drew
                    · rw [if_max, if_max]
                      exact ((kB2.set_ 4 _).set_ 5 _).drew
                    · exact ((hb2.setCell (p := ⟨gB, 4, none⟩) (by simp only; omega) _).setCell (p := ⟨gB, 5, none⟩) (by simp only; omega) _).drew
                  case measure => simp [intOf]; omega
                · have q6 : (b.kind == 3) = false := by simp [b3']
                  replace b3' := Lib.hid b3'
                  (have HN3 : Hid ((dfs.take (k + 1)).foldl (findStep s) (.zero, false) = (b, false)) := (by show _ = _; rw [HN.out, stepD (.inr ⟨fun h => d1.out h.1, fun h => h.elim b0'.out (fun h => h.elim d1.out (fun h => b2'.out h.2)), fun h => b3'.out h.2⟩)]); clear HN; go_wp2; go_roundw; (case rel => exact ⟨k + 1, b, by omega, by go_num, HN3, kP2, kR2, kB2, hb2⟩); (case measure => simp [intOf]; omega))
            · have q4 : (d.kind == 3) = false := by simp [d3]
              replace d3 := Lib.hid d3
              (have HN3 : Hid ((dfs.take (k + 1)).foldl (findStep s) (.zero, false) = (b, false)) := (by show _ = _; rw [HN.out, stepD (.inr ⟨fun h => d1.out h.1, fun h => h.elim b0'.out (fun h => h.elim d1.out (fun h => d3.out h.1)), fun h => d3.out h.1⟩)]); clear HN; go_wp2; go_roundw; (case rel => exact ⟨k + 1, b, by omega, by go_num, HN3, kP2, kR2, kB2, hb2⟩); (case measure => simp [intOf]; omega))
      · have e0 := fe_ne hn
        replace hn := Lib.hid hn
        (have HN3 : Hid ((dfs.take (k + 1)).foldl (findStep s) (.zero, false) = (b, false)) := (by show _ = _; rw [HN.out, stepD (.inl hn.out)]); clear HN; go_wp2; go_roundw; (case rel => exact ⟨k + 1, b, by omega, by go_num, HN3, kP2, kR2, kB2, hb2⟩); (case measure => simp [intOf]; omega))
    · obtain rfl : k = dfs.length := by omega
      have HE : Hid (findL dfs s = findEnd (b, false)) := by
        show _ = _
        unfold findL findSt
        have h1 := hJ.out
        rw [List.take_length] at h1
        rw [h1]
      have b0 := kB.cell 0
      have b1 := kB.cell 1
      have b2 := kB.cell 2
      have b3 := kB.cell 3
      have b4 := kB.cell 4
      have b5 := kB.cell 5
      have y0 := kR.cell 0
      have y1 := kR.cell 1
      have y2 := kR.cell 2
      have y3 := kR.cell 3
      have y4 := kR.cell 4
      have y5 := kR.cell 5
      have u0 := kR.frozen 0
      have u1 := kR.frozen 1
      have u2 := kR.frozen 2
      have u3 := kR.frozen 3
      have u4 := kR.frozen 4
      have u5 := kR.frozen 5
      by_cases b0' : b.kind = 0
      · have q3 : (b.kind == 0) = true := by simp [b0']
        have HR : Hid (findL dfs s = (.zero, 7)) := by show _ = _; rw [HE.out]; unfold findEnd; rw [if_neg (by simp), if_pos b0']
        have kRf := set6 kR (.string ⟨#[]⟩) (.int .i64 0) (.int .i64 0) (.int .i64 0) (.int .i64 0) (.int .i64 0)
        have hbf := below6 hb (Nat.le_of_lt n1) (.string ⟨#[]⟩) (.int .i64 0) (.int .i64 0) (.int .i64 0) (.int .i64 0) (.int .i64 0)
        have r0 := kRf.cell 0
        have r1 := kRf.cell 1
        have r2 := kRf.cell 2
        have r3 := kRf.cell 3
        have r4 := kRf.cell 4
        have r5 := kRf.cell 5
        clear b0' hJ HE kRf
        go_wp2
        refine bodyPost_ret (v := .tuple #[.agg #[.string ⟨#[]⟩, .int .i64 0, .int .i64 0, .int .i64 0, .int .i64 0, .int .i64 0], .int .i64 7]) (by simp [results, Tryd.results79, go_sem, r0, r1, r2, r3, r4, r5]) rfl ⟨by rw [HR.out]; rfl, hbf⟩
      · have q3 : (b.kind == 0) = false := by simp [b0']
        have HR : Hid (findL dfs s = (b, 0)) := by show _ = _; rw [HE.out]; unfold findEnd; rw [if_neg (by simp), if_neg b0']
        have kRf := set6 kR (.string b.name) (.int .i64 b.kind) (.int .i64 b.frag) (.int .i64 b.at_) (.int .i64 b.size) (.int .i64 b.align)
        have hbf := below6 hb (Nat.le_of_lt n1) (.string b.name) (.int .i64 b.kind) (.int .i64 b.frag) (.int .i64 b.at_) (.int .i64 b.size) (.int .i64 b.align)
        have r0 := kRf.cell 0
        have r1 := kRf.cell 1
        have r2 := kRf.cell 2
        have r3 := kRf.cell 3
        have r4 := kRf.cell 4
        have r5 := kRf.cell 5
        clear b0' hJ HE kRf
        go_wp2
        refine bodyPost_ret (v := .tuple #[.agg #[.string (b).name, .int .i64 (b).kind, .int .i64 (b).frag, .int .i64 (b).at_, .int .i64 (b).size, .int .i64 (b).align], .int .i64 0]) (by simp [results, Tryd.results79, go_sem, r0, r1, r2, r3, r4, r5]) rfl ⟨by rw [HR.out], hbf⟩

theorem findP_bad {p : Prt} {s : ByteArray} (h : ckPart p ≠ 0) : findP p s = (.zero, ckPart p) := if_pos h
theorem findP_ok {p : Prt} {s : ByteArray} (h : ckPart p = 0) : findP p s = findL p.dfs s := if_neg (by simp [h])
set_option maxRecDepth 100000 in
theorem findOut_any (p : PtM) (s : ByteArray) (w : World) (h : p.At w w.heap.size) :
    Calls Tryd.prog 41 #[.agg #[.slice p.fa p.frs.length p.fc, .slice p.da p.dfs.length p.dc], .string s] w
      fun e w' => e = .returned (.tuple #[.agg #[.string ((findP p.er s).1).name, .int .i64 ((findP p.er s).1).kind, .int .i64 ((findP p.er s).1).frag, .int .i64 ((findP p.er s).1).at_, .int .i64 ((findP p.er s).1).size, .int .i64 ((findP p.er s).1).align], .int .i64 (findP p.er s).2]) ∧ Below w.heap.size w w' := by
  have kP := (Blk.new w 25 #[.slice p.fa p.frs.length p.fc, .slice p.da p.dfs.length p.dc]).alloc (.cells #[.string ⟨#[]⟩, .int .i64 0, .int .i64 0, .int .i64 0, .int .i64 0, .int .i64 0] 70)
  have kR := Blk.new' (w.alloc (.cells #[.slice (p).fa (p).frs.length (p).fc, .slice (p).da (p).dfs.length (p).dc] 25)) 70 #[.string ⟨#[]⟩, .int .i64 0, .int .i64 0, .int .i64 0, .int .i64 0, .int .i64 0] (g := w.heap.size + 1) (by simp)
  have hb : Below w.heap.size w ((w.alloc (.cells #[.slice (p).fa (p).frs.length (p).fc, .slice (p).da (p).dfs.length (p).dc] 25)).alloc (.cells #[.string ⟨#[]⟩, .int .i64 0, .int .i64 0, .int .i64 0, .int .i64 0, .int .i64 0] 70)) := by (repeat' (first | exact Below.refl _ _ | assumption | refine Below.setCell ?_ (by first | omega | exact Below.size (by assumption) | (simp; done) | (simp; omega)) _ | refine Below.alloc ?_ (by first | omega | exact Below.size (by assumption) | (simp; done) | (simp; omega)) _ | refine Below.drew ?_ | refine below_drewN ?_ _))
  have h1 := h.all hb
  go_enter Tryd.func41, Tryd.ntmps41
  go_wp2_with fail
  obtain ⟨W0, hW0⟩ : ∃ W, W = (w.alloc (.cells #[.slice (p).fa (p).frs.length (p).fc, .slice (p).da (p).dfs.length (p).dc] 25)).alloc (.cells #[.string ⟨#[]⟩, .int .i64 0, .int .i64 0, .int .i64 0, .int .i64 0, .int .i64 0] 70) := ⟨_, rfl⟩
  rw [← hW0] at kP kR hb h1 ⊢
  clear hW0
  obtain ⟨gR, hgR⟩ : ∃ g, g = w.heap.size + 1 := ⟨_, rfl⟩
  rw [← hgR] at kR ⊢
  have n1 : w.heap.size ≤ gR := by omega
  clear hgR
  refine (check_any p W0 h1).mono ?_
  rintro e w1 ⟨rfl, hs⟩
  have kP1 := kP.all hs
  have kR1 := kR.all hs
  have h2 := h1.all hs
  have hb1 := hb.trans (hs.mono hb.size)
  clear kP kR h1 hb hs
  by_cases hc : ckPart p.er = 0
  · have HF := Lib.hid (findP_ok (s := s) hc)
    rw [hc]
    clear hc
    have q0 := kP1.cell 0
    have q1 := kP1.cell 1
    go_wp2_with fail
    refine (find_any p s w1 h2).mono ?_
    rintro e w2 ⟨rfl, hs⟩
    have kR2 := kR1.all hs
    have hb2 := hb1.trans (hs.mono hb1.size)
    have HF2 : Hid (findP p.er s = findL p.dfs s) := HF.out
    rw [← HF2.out]
    clear q0 q1 kR1 hb1 hs kP1 h2 HF HF2
    obtain ⟨⟨d, x⟩, hd⟩ : ∃ r, findP p.er s = r := ⟨_, rfl⟩
    rw [hd]
    have HD := Lib.hid hd
    clear hd
    have kRf := set6 kR2 (.string d.name) (.int .i64 d.kind) (.int .i64 d.frag) (.int .i64 d.at_) (.int .i64 d.size) (.int .i64 d.align)
    have hbf := below6 hb2 n1 (.string d.name) (.int .i64 d.kind) (.int .i64 d.frag) (.int .i64 d.at_) (.int .i64 d.size) (.int .i64 d.align)
    have y0 := kR2.cell 0
    have y1 := kR2.cell 1
    have y2 := kR2.cell 2
    have y3 := kR2.cell 3
    have y4 := kR2.cell 4
    have y5 := kR2.cell 5
    have u0 := kR2.frozen 0
    have u1 := kR2.frozen 1
    have u2 := kR2.frozen 2
    have u3 := kR2.frozen 3
    have u4 := kR2.frozen 4
    have u5 := kR2.frozen 5
    have r0 := kRf.cell 0
    have r1 := kRf.cell 1
    have r2 := kRf.cell 2
    have r3 := kRf.cell 3
    have r4 := kRf.cell 4
    have r5 := kRf.cell 5
    clear kRf
    go_wp2
    refine bodyPost_ret (v := .tuple #[.agg #[.string (d).name, .int .i64 (d).kind, .int .i64 (d).frag, .int .i64 (d).at_, .int .i64 (d).size, .int .i64 (d).align], .int .i64 x]) (by simp [results, Tryd.results41, go_sem, r0, r1, r2, r3, r4, r5]) rfl ⟨by rw [HD.out], hbf⟩
  · have HF := Lib.hid (findP_bad (s := s) hc)
    obtain ⟨n, hn⟩ : ∃ n, ckPart p.er = n := ⟨_, rfl⟩
    rw [hn] at HF ⊢
    have hn0 : (n != 0) = true := by rw [hn] at hc; simpa using hc
    clear hc hn
    have kRf := set6 kR1 (.string ⟨#[]⟩) (.int .i64 0) (.int .i64 0) (.int .i64 0) (.int .i64 0) (.int .i64 0)
    have hbf := below6 hb1 n1 (.string ⟨#[]⟩) (.int .i64 0) (.int .i64 0) (.int .i64 0) (.int .i64 0) (.int .i64 0)
    have y0 := kR1.cell 0
    have y1 := kR1.cell 1
    have y2 := kR1.cell 2
    have y3 := kR1.cell 3
    have y4 := kR1.cell 4
    have y5 := kR1.cell 5
    have u0 := kR1.frozen 0
    have u1 := kR1.frozen 1
    have u2 := kR1.frozen 2
    have u3 := kR1.frozen 3
    have u4 := kR1.frozen 4
    have u5 := kR1.frozen 5
    have r0 := kRf.cell 0
    have r1 := kRf.cell 1
    have r2 := kRf.cell 2
    have r3 := kRf.cell 3
    have r4 := kRf.cell 4
    have r5 := kRf.cell 5
    clear kRf
    go_wp2
    refine bodyPost_ret (v := .tuple #[.agg #[.string ⟨#[]⟩, .int .i64 0, .int .i64 0, .int .i64 0, .int .i64 0, .int .i64 0], .int .i64 n]) (by simp [results, Tryd.results41, go_sem, r0, r1, r2, r3, r4, r5]) rfl ⟨by rw [HF.out]; rfl, hbf⟩
end Go.Proofs.YtmlomnhjbmocfaaDoor
