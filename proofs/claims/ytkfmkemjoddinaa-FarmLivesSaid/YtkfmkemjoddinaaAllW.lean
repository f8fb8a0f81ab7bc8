/- part.Drop, All: what they compute. -/
import Derived.Test.YtkfmkemjoddinaaJoinW
import Derived.Test.YtkfmkemjoddinaaBC
set_option linter.all false
namespace Go.Proofs.Ytkfmkemjoddinaa
open Go.RowKit

def dropRes (p : Prt) (l : List ByteArray) : Prt × Int := if ckPart p ≠ 0 then (.nil, ckPart p) else (dropP p l, 0)
theorem dropRes_bad {p : Prt} {l : List ByteArray} (h : ckPart p ≠ 0) : dropRes p l = (.nil, ckPart p) := if_pos h
theorem dropRes_ok {p : Prt} {l : List ByteArray} (h : ckPart p = 0) : dropRes p l = (dropP p l, 0) := if_neg (by simp [h])
theorem outW0 (p : PtM) (w : World) : Blk ((w.alloc (.cells #[.slice p.fa p.frs.length p.fc, .slice p.da p.dfs.length p.dc] 44)).alloc (.cells #[.slice none 0 0, .slice none 0 0] 44)) w.heap.size 44 #[.slice p.fa p.frs.length p.fc, .slice p.da p.dfs.length p.dc] ∧
    Blk ((w.alloc (.cells #[.slice p.fa p.frs.length p.fc, .slice p.da p.dfs.length p.dc] 44)).alloc (.cells #[.slice none 0 0, .slice none 0 0] 44)) (w.heap.size + 1) 44 #[.slice none 0 0, .slice none 0 0] ∧
    Below w.heap.size w ((w.alloc (.cells #[.slice p.fa p.frs.length p.fc, .slice p.da p.dfs.length p.dc] 44)).alloc (.cells #[.slice none 0 0, .slice none 0 0] 44)) :=
  ⟨(Blk.new' _ _ _ rfl).alloc _, Blk.new' _ _ _ (by simp), by (repeat' (first | exact Below.refl _ _ | assumption | refine Below.setCell ?_ (by first | omega | exact Below.size (by assumption) | (simp; done) | (simp; omega)) _ | refine Below.alloc ?_ (by first | omega | exact Below.size (by assumption) | (simp; done) | (simp; omega)) _ | refine Below.drew ?_ | refine below_drewN ?_ _))⟩

/-- A row of parts in memory. -/
def ptsV (l : List PtM) : List Value := l.flatMap PtM.cells
structure PtsAt (w : World) (B : Nat) (A : Option Addr) (l : List PtM) : Prop where
  row : Reads w B 2 A l.length (ptsV l)
  each : ∀ p ∈ l, p.At w B
theorem PtsAt.keep {w w' : World} {B B' : Nat} {A : Option Addr} {l : List PtM} (h : PtsAt w B A l) (hb : Below B w w') (hB : B ≤ B') : PtsAt w' B' A l := ⟨(h.row.below hb).more hB, fun p hp => (h.each p hp).keep hb hB⟩
theorem pt_get {w : World} {B : Nat} {A : Option Addr} {l : List PtM} (h : Reads w B 2 A l.length (ptsV l)) {i : Nat} {x : PtM} (hx : l[i]? = some x) :
    ∃ b off, A = some ⟨b, off, none⟩ ∧ b < B ∧ w.cell? ⟨b, off + i * 2, none⟩ = some (.slice x.fa x.frs.length x.fc) ∧ w.cell? ⟨b, off + i * 2 + 1, none⟩ = some (.slice x.da x.dfs.length x.dc) := by
  obtain ⟨b, off, e, hb, hc⟩ := cells_get (cells := PtM.cells) (fun _ => rfl) h hx
  exact ⟨b, off, e, hb, hc 0 _ rfl, hc 1 _ rfl⟩
theorem allP_many {l : List Prt} (h : 96 < l.length) : allP l = (.nil, 2) := if_pos h
theorem allP_few {l : List Prt} (h : ¬ 96 < l.length) : allP l = allFrom .nil l := if_neg h
theorem allFrom_bad {a b : Prt} {r : List Prt} (h : (joinP a b).2 ≠ 0) : allFrom a (b :: r) = (.nil, (joinP a b).2) := by rw [allFrom, if_pos h]
theorem allFrom_ok {a b : Prt} {r : List Prt} (h : (joinP a b).2 = 0) : allFrom a (b :: r) = allFrom (joinP a b).1 r := by rw [allFrom, if_neg (by simp [h])]

set_option maxHeartbeats 4000000 in
theorem all_any (A : Option Addr) (c : Nat) (l : List PtM) (w : World) (h : PtsAt w w.heap.size A l) (hlm : l.length ≤ 9223372036854775807) :
    Calls Try.prog 20 #[.slice A l.length c] w (JoinIs w (allP (l.map PtM.er))) := by
  obtain ⟨hl, he⟩ := h
  have HE := Lib.hid he
  clear he
  unfold JoinIs
  have hb0 : Below w.heap.size w (w.alloc (.cells #[.slice none 0 0, .slice none 0 0] 44)) := by (repeat' (first | exact Below.refl _ _ | assumption | refine Below.setCell ?_ (by first | omega | exact Below.size (by assumption) | (simp; done) | (simp; omega)) _ | refine Below.alloc ?_ (by first | omega | exact Below.size (by assumption) | (simp; done) | (simp; omega)) _ | refine Below.drew ?_ | refine below_drewN ?_ _))
  have hR0 := Blk.new w 44 #[.slice none 0 0, .slice none 0 0]
  by_cases h96 : 96 < l.length
  · have HJ := Lib.hid (allP_many (l := l.map PtM.er) (by simpa using h96))
    have t1 : decide ((96 : Int) < (l.length : Int)) = true := decide_eq_true (by omega)
    have hBy : Below w.heap.size w (((w.alloc (.cells #[.slice none 0 0, .slice none 0 0] 44)).setCell ⟨w.heap.size, 0, none⟩ (.slice none 0 0)).setCell ⟨w.heap.size, 1, none⟩ (.slice none 0 0)) := by (repeat' (first | exact Below.refl _ _ | assumption | refine Below.setCell ?_ (by first | omega | exact Below.size (by assumption) | (simp; done) | (simp; omega)) _ | refine Below.alloc ?_ (by first | omega | exact Below.size (by assumption) | (simp; done) | (simp; omega)) _ | refine Below.drew ?_ | refine below_drewN ?_ _))
    clear h96
    go_enter Try.func20, Try.ntmps20
    go_wp2
    refine bodyPost_ret (v := .tuple #[.agg #[.slice none 0 0, .slice none 0 0], .int .i64 2]) (by simp [results, Try.results20, go_sem]) rfl ⟨⟨[], [], none, 0, none, 0⟩, by rw [HJ.out]; rfl, nil_own _ _, by rw [HJ.out]; rfl, by first | exact hBy | (repeat' (first | exact Below.refl _ _ | assumption | refine Below.setCell ?_ (by first | omega | exact Below.size (by assumption) | (simp; done) | (simp; omega)) _ | refine Below.alloc ?_ (by first | omega | exact Below.size (by assumption) | (simp; done) | (simp; omega)) _ | refine Below.drew ?_ | refine below_drewN ?_ _))⟩
  · have HJ := Lib.hid (allP_few (l := l.map PtM.er) (by simpa using h96))
    have t1 : decide ((96 : Int) < (l.length : Int)) = false := decide_eq_false (by omega)
    clear h96
    have hO0 := Blk.new' (w.alloc (.cells #[.slice none 0 0, .slice none 0 0] 44)) 44 #[.slice none 0 0, .slice none 0 0] (g := w.heap.size + 1) (by simp)
    have hb1 : Below w.heap.size w ((w.alloc (.cells #[.slice none 0 0, .slice none 0 0] 44)).alloc (.cells #[.slice none 0 0, .slice none 0 0] 44)) := by (repeat' (first | exact Below.refl _ _ | assumption | refine Below.setCell ?_ (by first | omega | exact Below.size (by assumption) | (simp; done) | (simp; omega)) _ | refine Below.alloc ?_ (by first | omega | exact Below.size (by assumption) | (simp; done) | (simp; omega)) _ | refine Below.drew ?_ | refine below_drewN ?_ _))
    have hR1 := hR0.alloc (.cells #[.slice none 0 0, .slice none 0 0] 44)
    go_enter Try.func20, Try.ntmps20
    go_wp2
    obtain ⟨gO, hgO⟩ : ∃ g, g = w.heap.size + 1 := ⟨_, rfl⟩
    rw [← hgO] at hO0 ⊢
    have hg : w.heap.size < gO := by omega
    clear hgO hb0 hR0
    go_loopw [15] (fun i wr => ∃ (k : Nat) (q : PtM), k ≤ l.length ∧ i = .int .i64 k ∧ Hid (allFrom .nil (l.map PtM.er) = allFrom q.er ((l.drop k).map PtM.er)) ∧ Blk wr w.heap.size 44 #[.slice none 0 0, .slice none 0 0] ∧
      Blk wr gO 44 #[.slice q.fa q.frs.length q.fc, .slice q.da q.dfs.length q.dc] ∧ q.Own wr w.heap.size ∧ Below w.heap.size w wr) (fun i _ => l.length - (intOf i).toNat)
    case atStart => exact ⟨0, ⟨[], [], none, 0, none, 0⟩, Nat.zero_le _, rfl, Lib.hid rfl, hR1, hO0, nil_own _ _, hb1⟩
    case round =>
      clear hR1 hO0 hb1
      obtain ⟨k, q, hk, rfl, hJ, hR, hO, hq, hb⟩ := hrel
      have gOl := hO.lt
      by_cases hlt : k < l.length
      · obtain ⟨p, hp⟩ : ∃ p, l[k]? = some p := ⟨_, List.getElem?_eq_getElem hlt⟩
        obtain ⟨b, off, rfl, bl, c0, c1⟩ := pt_get (hl.below hb) hp
        have hpA := (HE.out p (List.mem_of_getElem? hp)).keep hb hb.size
        have hdr : Hid ((l.drop k).map PtM.er = p.er :: (l.drop (k + 1)).map PtM.er) := by
          obtain ⟨hk', hv⟩ := List.getElem?_eq_some_iff.1 hp
          show _ = _
          rw [List.drop_eq_getElem_cons hk', hv]; rfl
        have o0 := hO.cell 0
        have o1 := hO.cell 1
        clear hp
        go_wp2_with fail
        have hbp : Below wr.heap.size wr (wr.alloc (.cells #[.slice p.fa p.frs.length p.fc, .slice p.da p.dfs.length p.dc] 44)) := by (repeat' (first | exact Below.refl _ _ | assumption | refine Below.setCell ?_ (by first | omega | exact Below.size (by assumption) | (simp; done) | (simp; omega)) _ | refine Below.alloc ?_ (by first | omega | exact Below.size (by assumption) | (simp; done) | (simp; omega)) _ | refine Below.drew ?_ | refine below_drewN ?_ _))
        refine (join_any q p _ (hq.at_.all hbp) (hpA.all hbp)).mono ?_
        rintro e w1 ⟨⟨nf, nd, na, nc, nda, ndc⟩, rfl, hn, her, hb2⟩
        dsimp only
        have hb3 : Below wr.heap.size wr w1 := hbp.trans (hb2.mono hbp.size)
        have hB3 : Below w.heap.size w w1 := hb.trans (hb3.mono hb.size)
        have hR2 := hR.all hb3
        have hO2 := hO.all hb3
        have hsz := hb3.size
        have gl1 := hO2.lt
        have gl2 := hR2.lt
        have hbs := hb.size
        have hw2 : w.heap.size ≤ (wr.alloc (.cells #[.slice p.fa p.frs.length p.fc, .slice p.da p.dfs.length p.dc] 44)).heap.size := Nat.le_trans hb.size hbp.size
        clear c0 c1 o0 o1 hb2 hbp hb3 hpA
        by_cases hj : (joinP q.er p.er).2 = 0
        · have HA : Hid (allFrom .nil (l.map PtM.er) = allFrom (PtM.er ⟨nf, nd, na, nc, nda, ndc⟩) ((l.drop (k + 1)).map PtM.er)) := by
            show _ = _
            rw [hJ.out, hdr.out, allFrom_ok hj, her]
          rw [hj]
          have f0 := hO2.frozen 0
          have f1 := hO2.frozen 1
          have d0 := hO2.cell 0
          have d1 := hO2.cell 1
          have hO3 := ((hO2.set_ 0 (.slice na nf.length nc)).set_ 1 (.slice nda nd.length ndc)).alloc (.cells #[.slice na nf.length nc, .slice nda nd.length ndc] 44)
          have hR3 := ((hR2.far (p := ⟨gO, 0, none⟩) (by simp only; omega) (.slice na nf.length nc)).far (p := ⟨gO, 1, none⟩) (by simp only; omega) (.slice nda nd.length ndc)).alloc (.cells #[.slice na nf.length nc, .slice nda nd.length ndc] 44)
          have hn3 := (((hn.mono hw2).blk hO2 (by decide) (by decide) (by decide) (by decide) (.slice na nf.length nc) (j := 0)).blk (hO2.set_ 0 (.slice na nf.length nc)) (by decide) (by decide) (by decide) (by decide) (.slice nda nd.length ndc) (j := 1)).alloc (.cells #[.slice na nf.length nc, .slice nda nd.length ndc] 44)
          have hB4 := ((hB3.setCell (p := ⟨gO, 0, none⟩) (by simp only; omega) (.slice na nf.length nc)).setCell (p := ⟨gO, 1, none⟩) (by simp only; omega) (.slice nda nd.length ndc)).alloc (by simp [World.setCell]; omega) (.cells #[.slice na nf.length nc, .slice nda nd.length ndc] 44)
          clear hj hR hO hq hb hR2 hO2 hn her hB3
          go_wp2
          go_roundw
          case rel => exact ⟨k + 1, ⟨nf, nd, na, nc, nda, ndc⟩, by omega, by go_num, HA, hR3, hO3, hn3, hB4⟩
          case measure => simp [intOf]; omega
        · have HA : Hid (allFrom .nil (l.map PtM.er) = (.nil, (joinP q.er p.er).2)) := by
            show _ = _
            rw [hJ.out, hdr.out, allFrom_bad hj]
          obtain ⟨n, hn'⟩ : ∃ n, (joinP q.er p.er).2 = n := ⟨_, rfl⟩
          rw [hn'] at HA hj ⊢
          have hn0 : (n != 0) = true := by simpa using hj
          have f0 := hR2.frozen 0
          have f1 := hR2.frozen 1
          have d0 := hR2.cell 0
          have d1 := hR2.cell 1
          have hRx := ((hR2.set_ 0 (.slice none 0 0)).set_ 1 (.slice none 0 0)).alloc (.cells #[.slice na nf.length nc, .slice nda nd.length ndc] 44)
          have x0 := hRx.cell 0
          have x1 := hRx.cell 1
          clear hj hn' hR hO hq hb hR2 hO2 hn her
          go_wp2
          refine bodyPost_ret (v := .tuple #[.agg #[.slice none 0 0, .slice none 0 0], .int .i64 n]) (by simp [results, Try.results20, go_sem, d0, d1, x0, x1]) rfl ⟨⟨[], [], none, 0, none, 0⟩, by rw [HJ.out, HA.out]; rfl, nil_own _ _, by rw [HJ.out, HA.out]; rfl, by (repeat' (first | exact Below.refl _ _ | assumption | refine Below.setCell ?_ (by first | omega | exact Below.size (by assumption) | (simp; done) | (simp; omega)) _ | refine Below.alloc ?_ (by first | omega | exact Below.size (by assumption) | (simp; done) | (simp; omega)) _ | refine Below.drew ?_ | refine below_drewN ?_ _))⟩
      · obtain rfl : k = l.length := by omega
        have HA : Hid (allFrom .nil (l.map PtM.er) = (q.er, 0)) := by
          show _ = _
          rw [hJ.out, List.drop_length]; rfl
        have f0 := hR.frozen 0
        have f1 := hR.frozen 1
        have d0 := hR.cell 0
        have d1 := hR.cell 1
        have o0 := hO.cell 0
        have o1 := hO.cell 1
        have hq3 := (hq.blk hR (by decide) (by decide) (by decide) (by decide) (.slice q.fa q.frs.length q.fc) (j := 0)).blk (hR.set_ 0 (.slice q.fa q.frs.length q.fc)) (by decide) (by decide) (by decide) (by decide) (.slice q.da q.dfs.length q.dc) (j := 1)
        have hB4 := (hb.setCell (p := ⟨w.heap.size, 0, none⟩) (by simp only; omega) (.slice q.fa q.frs.length q.fc)).setCell (p := ⟨w.heap.size, 1, none⟩) (by simp only; omega) (.slice q.da q.dfs.length q.dc)
        clear hR hO hq hb
        go_wp2
        refine bodyPost_ret (v := .tuple #[.agg #[.slice q.fa q.frs.length q.fc, .slice q.da q.dfs.length q.dc], .int .i64 0]) (by simp [results, Try.results20, go_sem, d0, d1]) rfl ⟨q, by rw [HJ.out, HA.out], hq3, by rw [HJ.out, HA.out], hB4⟩
end Go.Proofs.Ytkfmkemjoddinaa
