/- farm.New: what it makes. -/
import Derived.Test.YtkfmkemjoddinaaFarmM
import Derived.Test.YtkfmkemjoddinaaFarmZr
import Derived.Test.YtkfmkemjoddinaaFmC
set_option linter.all false
namespace Go.Proofs.Ytkfmkemjoddinaa
open Go.RowKit
set_option maxRecDepth 100000

def nilM : PtM := ⟨[], [], none, 0, none, 0⟩
theorem made_flat {α : Type} (l : List α) (z : Array Value) (hz : 0 < z.size) : (madeCells z (l.length * z.size)).toList = l.flatMap fun _ => z.toList := zero_flat l z hz
theorem own_blk' {w : World} {g base n size : Nat} {t : TypeId} {cs : Array Value} {xs : List Value} (h : Blk w g t cs) (hb : base ≤ g) (he : cs.toList = xs) (hs : cs.size = n * size) (hm : n ≤ 9223372036854775807) : w.ownsRow base t size (.slice (some ⟨g, 0, none⟩) n n) n xs := he ▸ own_of_blk h hb hs hm
/-- Behind the first statement: a farm without parts and workers. -/
def NewCut (W wx : World) (gR : Nat) (l : List Nd) (s : Value) : Prop :=
  ∃ (g : Nat) (f0 : FrM), s = .pointer (some ⟨g, 0, none⟩) ∧ FB wx W.heap.size g f0 ∧ f0.er = newF [] l 0 ∧ Blk wx gR 29 #[.slice none 0 0, .slice none 0 0, .int .i64 0, .slice none 0 0, .slice none 0 0, .slice none 0 0, .slice none 0 0, .slice none 0 0] ∧ Below W.heap.size W wx
theorem new_cut {W wv : World} {gR gB gD gH gG n c1 : Nat} {A1 : Option Addr} {l : List Nd} {DC HC GC : Array Value} (kR : Blk W gR 29 #[.slice none 0 0, .slice none 0 0, .int .i64 0, .slice none 0 0, .slice none 0 0, .slice none 0 0, .slice none 0 0, .slice none 0 0]) (hb : Below W.heap.size W wv) (hnn : Hid (n = l.length ∧ n ≤ 23))
    (o1 : wv.ownsRow W.heap.size 39 3 (.slice A1 l.length c1) l.length (ndCells l)) (kD : Blk wv gD 4 DC) (gDb : W.heap.size ≤ gD) (eDC : Hid (DC.toList = boolsV (List.replicate n false)))
    (kH : Blk wv gH 44 HC) (gHb : W.heap.size ≤ gH) (eHC : Hid (HC.toList = ptsV (List.replicate n nilM))) (kG : Blk wv gG 76 GC) (gGb : W.heap.size ≤ gG) (eGC : Hid (GC.toList = grsV (List.replicate n Gr.none_)))
    (kB : Blk wv gB 29 #[.slice none 0 0, .slice none 0 0, .int .i64 0, .slice none 0 0, .slice none 0 0, .slice none 0 0, .slice none 0 0, .slice none 0 0]) (gBb : W.heap.size ≤ gB) : NewCut W ((((((((wv.setCell ⟨gB, 0, none⟩ (.slice none 0 0)).setCell ⟨gB, 1, none⟩ (.slice A1 l.length c1)).setCell ⟨gB, 2, none⟩ (.int .i64 0)).setCell ⟨gB, 3, none⟩ (.slice (some ⟨gD, 0, none⟩) n n)).setCell ⟨gB, 4, none⟩ (.slice (some ⟨gH, 0, none⟩) n n)).setCell ⟨gB, 5, none⟩ (.slice (some ⟨gG, 0, none⟩) n n)).setCell ⟨gB, 6, none⟩ (.slice none 0 0)).setCell ⟨gB, 7, none⟩ (.slice none 0 0)) gR l (.pointer (some ⟨gB, 0, none⟩)) := by
  obtain ⟨f0, hf0⟩ : ∃ f0 : FrM, f0 = ⟨[], l, 0, List.replicate n false, List.replicate n nilM, List.replicate n .none_, [], [], none, 0, A1, c1, some ⟨gD, 0, none⟩, n, some ⟨gH, 0, none⟩, n, some ⟨gG, 0, none⟩, n, none, 0, none, 0⟩ := ⟨_, rfl⟩
  have sD : DC.size = n * 1 := by have := congrArg List.length eDC.out; simpa [boolsV] using this
  have sH : HC.size = n * 2 := by have := congrArg List.length eHC.out; rw [show (ptsV (List.replicate n nilM)).length = (List.replicate n nilM).length * 2 from flatMap_len (cells := PtM.cells) (fun _ => rfl) _] at this; simpa using this
  have sG : GC.size = n * 2 := by have := congrArg List.length eGC.out; rw [show (grsV (List.replicate n Gr.none_)).length = (List.replicate n Gr.none_).length * 2 from flatMap_len Gr.cells_len _] at this; simpa using this
  have hm : n ≤ 9223372036854775807 := by have := hnn.out.2; omega
  have oD := own_blk' (n := n) (size := 1) kD gDb eDC.out sD hm
  have oH := own_blk' (n := n) (size := 2) kH gHb eHC.out sH hm
  have oG := own_blk' (n := n) (size := 2) kG gGb eGC.out sG hm
  have hO : f0.Own wv W.heap.size := by
    subst hf0
    exact ⟨World.ownsRow_nil _ _ _ _, fun x hx => absurd hx (by simp), o1, by simpa only [List.length_replicate] using oD, by simpa only [List.length_replicate] using oH, fun x hx => by rw [List.eq_of_mem_replicate hx]; exact nil_own _ _, by simpa only [List.length_replicate] using oG, World.ownsRow_nil _ _ _ _, World.ownsRow_nil _ _ _ _, fun x hx => absurd hx (by simp), .inl rfl⟩
  have kR' := kR.below hb kR.lt
  have hne : gR ≠ gB := by have := kR.lt; omega
  have e : ((((((((wv.setCell ⟨gB, 0, none⟩ (.slice none 0 0)).setCell ⟨gB, 1, none⟩ (.slice A1 l.length c1)).setCell ⟨gB, 2, none⟩ (.int .i64 0)).setCell ⟨gB, 3, none⟩ (.slice (some ⟨gD, 0, none⟩) n n)).setCell ⟨gB, 4, none⟩ (.slice (some ⟨gH, 0, none⟩) n n)).setCell ⟨gB, 5, none⟩ (.slice (some ⟨gG, 0, none⟩) n n)).setCell ⟨gB, 6, none⟩ (.slice none 0 0)).setCell ⟨gB, 7, none⟩ (.slice none 0 0)) = ((((((((wv.setCell ⟨gB, 0, none⟩ (.slice f0.pa f0.ps.length f0.pc)).setCell ⟨gB, 1, none⟩ (.slice f0.la f0.pl.length f0.lc)).setCell ⟨gB, 2, none⟩ (.int .i64 f0.now)).setCell ⟨gB, 3, none⟩ (.slice f0.da f0.dn.length f0.dc)).setCell ⟨gB, 4, none⟩ (.slice f0.ha f0.hv.length f0.hc)).setCell ⟨gB, 5, none⟩ (.slice f0.ga f0.gs.length f0.gc)).setCell ⟨gB, 6, none⟩ (.slice f0.wa f0.wk.length f0.wc)).setCell ⟨gB, 7, none⟩ (.slice f0.na f0.nt.length f0.nc)) := by subst hf0; simp only [List.length_replicate]; rfl
  rw [e]
  refine ⟨gB, f0, rfl, ⟨kB.put8 f0, hO.put8 kB f0, gBb⟩, ?_, kR'.far8 hne f0, below_put8 hb gBb f0⟩
  subst hf0
  simp only [FrM.er, newF, List.map_nil, List.map_replicate, hnn.out.1, List.replicate_zero]
  rfl
theorem PtM.Own.grown_own {w w' : World} {base base' n' : Nat} {v' : Value} {xs' : List Value} {p : PtM} (h : p.Own w base) (hg : w.grownBy w' v'.ownBlock) (h' : w.ownsRow base' 44 2 v' n' xs') : p.Own w' base :=
  h.kept_ty h' (by decide) (by decide) (by decide) (by decide) hg
theorem FrM.Own.work' {w w' : World} {base : Nat} {f : FrM} (h : f.Own w base) {wk : List Int} {wa : Option Addr} {wc : Nat} (hg : w.grownBy w' (Value.slice f.wa f.wk.length f.wc).ownBlock)
    (hr : w'.ownsRow base 3 1 (.slice wa wk.length wc) wk.length (intsV wk)) : FrM.Own w' base { f with wk := wk, wa := wa, wc := wc } :=
  ⟨own_kept_ty h.ps h.wk (by decide) hg, fun p hp => (h.pse p hp).kept_ty h.wk (by decide) (by decide) (by decide) (by decide) hg, own_kept_ty h.pl h.wk (by decide) hg, own_kept_ty h.dn h.wk (by decide) hg,
    own_kept_ty h.hv h.wk (by decide) hg, fun p hp => (h.hve p hp).kept_ty h.wk (by decide) (by decide) (by decide) (by decide) hg, own_kept_ty h.gs h.wk (by decide) hg, hr, own_kept_ty h.nt h.wk (by decide) hg,
    fun m hm => (h.nte m hm).kept_ty h.wk (by decide) (by decide) (by decide) (by decide) hg, h.apart⟩
theorem FrM.Own.parts {w w' : World} {base : Nat} {f : FrM} (h : f.Own w base) {ps : List PtM} {pa : Option Addr} {pc : Nat} (hg : w.grownBy w' (Value.slice f.pa f.ps.length f.pc).ownBlock)
    (hv' : (Value.slice pa ps.length pc).ownBlock = (Value.slice f.pa f.ps.length f.pc).ownBlock ∨ (Value.slice pa ps.length pc).ownBlock = some w.heap.size)
    (hr : w'.ownsRow base 44 2 (.slice pa ps.length pc) ps.length (ptsV ps)) (he : ∀ p ∈ ps, p.Own w' base) : FrM.Own w' base { f with ps := ps, pa := pa, pc := pc } := by
  have hvk : w'.ownsRow base 44 2 (.slice f.ha f.hv.length f.hc) f.hv.length (ptsV f.hv) := h.hv.kept hg (by
    rcases h1 : (Value.slice f.ha f.hv.length f.hc).ownBlock with _ | x
    · exact .inl rfl
    · refine .inr fun e => ?_
      rcases h.apart with h2 | h2
      · rw [h2] at e; cases e
      · exact h2 (by rw [h1]; exact e.symm))
  refine ⟨hr, he, own_kept_ty h.pl h.ps (by decide) hg, own_kept_ty h.dn h.ps (by decide) hg, hvk, fun p hp => (h.hve p hp).kept_ty h.ps (by decide) (by decide) (by decide) (by decide) hg, own_kept_ty h.gs h.ps (by decide) hg, own_kept_ty h.wk h.ps (by decide) hg, own_kept_ty h.nt h.ps (by decide) hg,
    fun m hm => (h.nte m hm).kept_ty h.ps (by decide) (by decide) (by decide) (by decide) hg, ?_⟩
  show (Value.slice pa ps.length pc).ownBlock = none ∨ (Value.slice pa ps.length pc).ownBlock ≠ (Value.slice f.ha f.hv.length f.hc).ownBlock
  rcases hv' with h1 | h1
  · rw [h1]; exact h.apart
  · rw [h1]
    refine .inr fun e => ?_
    have := (h.hv.lt _ e.symm).2
    omega
set_option maxHeartbeats 100000000 in
theorem new_any (A A2 : Option Addr) (c c2 : Nat) (ps : List PtM) (l : List Nd) (nw : Int) (w : World) (hp : PtsAt w w.heap.size A ps) (hpm : ps.length ≤ 9223372036854775807) (hl : Reads w w.heap.size 3 A2 l.length (ndCells l)) (hlm : l.length ≤ 9223372036854775807) :
    Calls Try.prog 16 #[.slice A ps.length c, .slice A2 l.length c2, .int .i64 nw] w (DoIs w (newP (ps.map PtM.er) l nw)) := by
  unfold DoIs
  have hplen : ((ps.map PtM.er).length : Int) = ps.length := by simp
  have hB : Below w.heap.size w (w.alloc (.cells #[.slice none 0 0, .slice none 0 0, .int .i64 0, .slice none 0 0, .slice none 0 0, .slice none 0 0, .slice none 0 0, .slice none 0 0] 29)) := by (repeat' (first | exact Below.refl _ _ | assumption | refine Below.setCell ?_ (by first | omega | exact Below.size (by assumption) | (simp; done) | (simp; omega)) _ | refine Below.alloc ?_ (by first | omega | exact Below.size (by assumption) | (simp; done) | (simp; omega)) _ | refine Below.drew ?_ | refine below_drewN ?_ _))
  have kR := Blk.new w 29 #[.slice none 0 0, .slice none 0 0, .int .i64 0, .slice none 0 0, .slice none 0 0, .slice none 0 0, .slice none 0 0, .slice none 0 0]
  have hl1 := (hl.below hB).more hB.size
  go_enter Try.func16, Try.ntmps16
  go_upto_region 1 with (fail)
  obtain ⟨gR, hgR⟩ : ∃ g, g = w.heap.size := ⟨_, rfl⟩
  obtain ⟨W0, hW0⟩ : ∃ y, y = w.alloc (.cells #[.slice none 0 0, .slice none 0 0, .int .i64 0, .slice none 0 0, .slice none 0 0, .slice none 0 0, .slice none 0 0, .slice none 0 0] 29) := ⟨_, rfl⟩
  have hgR1 : w.heap.size ≤ gR := by omega
  rw [← hgR] at kR ⊢
  rw [← hW0] at kR hB hl1 ⊢
  clear hW0 hgR
  go_wp2_with fail
  refine (planCheck_any A2 c2 l ps.length W0 hl1 hlm).mono ?_
  rintro e W ⟨rfl, hb1⟩
  replace kR := kR.all hb1
  replace hB := hB.trans (hb1.mono hB.size)
  have HL := Lib.hid ((hl.below hB).more hB.size)
  obtain ⟨n1, hn1⟩ : ∃ n, ckPlan l ps.length = n := ⟨_, rfl⟩
  rw [hn1]
  clear hl1 hb1
  by_cases h0 : n1 = 0
  · subst h0
    have hz := ckPlan_zero hn1
    have hl23 : l.length ≤ 23 := hz.2.2.1
    have hp12 : ps.length ≤ 12 := by have := hz.2.1; omega
    have HN1 := Lib.hid hn1
    clear hz hn1
    by_cases hw : nw < 1 ∨ 4 < nw
    · have HE : Hid (newP (ps.map PtM.er) l nw = (.nil, 3)) := by
        show _ = _
        unfold newP
        rw [if_neg (by rw [hplen]; exact fun hn => hn HN1.out), if_pos hw]
      obtain ⟨b1, hb1⟩ : ∃ b, decide (nw < 1) = b := ⟨_, rfl⟩
      obtain ⟨b2, hb2⟩ : ∃ b, decide (4 < nw) = b := ⟨_, rfl⟩
      have hbb : (b1 || b2) = true := by rw [← hb1, ← hb2]; simpa using hw
      (have r0 := (kR).cell 0; have r1 := (kR).cell 1; have r2 := (kR).cell 2; have r3 := (kR).cell 3; have r4 := (kR).cell 4; have r5 := (kR).cell 5; have r6 := (kR).cell 6; have r7 := (kR).cell 7)
      (have z0 := (kR).frozen 0; have z1 := (kR).frozen 1; have z2 := (kR).frozen 2; have z3 := (kR).frozen 3; have z4 := (kR).frozen 4; have z5 := (kR).frozen 5; have z6 := (kR).frozen 6; have z7 := (kR).frozen 7)
      have hBl := kR.putz8
      have hBe := below_putz8 hB hgR1
      (have y0 := (hBl).cell 0; have y1 := (hBl).cell 1; have y2 := (hBl).cell 2; have y3 := (hBl).cell 3; have y4 := (hBl).cell 4; have y5 := (hBl).cell 5; have y6 := (hBl).cell 6; have y7 := (hBl).cell 7)
      clear kR hB hBl hw
      cases b1 <;> cases b2
      · cases hbb
      all_goals
        go_wp2
        refine bodyPost_ret (v := .tuple #[.agg #[.slice none 0 0, .slice none 0 0, .int .i64 0, .slice none 0 0, .slice none 0 0, .slice none 0 0, .slice none 0 0, .slice none 0 0], .int .i64 3]) (by simp [results, Try.results16, go_sem, y0, y1, y2, y3, y4, y5, y6, y7]) rfl ⟨FrM.nil, by rw [HE.out]; rfl, nilF_own _ _, by rw [HE.out]; rfl, hBe⟩
    · have d1 : decide (nw < 1) = false := decide_eq_false (by omega)
      have d2 : decide (4 < nw) = false := decide_eq_false (by omega)
      have hnn : Hid (l.length = l.length ∧ l.length ≤ 23) := ⟨rfl, hl23⟩
      obtain ⟨DC, eDC0⟩ : ∃ x, x = madeCells #[Value.bool false] (l.length * 1) := ⟨_, rfl⟩
      obtain ⟨HC, eHC0⟩ : ∃ x, x = madeCells #[Value.slice none 0 0, .slice none 0 0] (l.length * 2) := ⟨_, rfl⟩
      obtain ⟨GC, eGC0⟩ : ∃ x, x = madeCells #[Value.int .i64 0, .int .i64 0] (l.length * 2) := ⟨_, rfl⟩
      have eDC : Hid (DC.toList = boolsV (List.replicate l.length false)) := by
        show _ = _
        rw [eDC0]
        have := made_flat (List.replicate l.length ()) #[Value.bool false] (by decide)
        rw [List.length_replicate] at this
        rw [show l.length * 1 = l.length * (#[Value.bool false] : Array Value).size from rfl, this]
        simp [boolsV, List.flatMap_replicate]
      have eHC : Hid (HC.toList = ptsV (List.replicate l.length nilM)) := by
        show _ = _
        rw [eHC0]
        have := made_flat (List.replicate l.length ()) #[Value.slice none 0 0, .slice none 0 0] (by decide)
        rw [List.length_replicate] at this
        rw [show l.length * 2 = l.length * (#[Value.slice none 0 0, .slice none 0 0] : Array Value).size from rfl, this]
        simp [ptsV, List.flatMap_replicate, PtM.cells, PtM.frV, PtM.dfV, nilM]
      have eGC : Hid (GC.toList = grsV (List.replicate l.length Gr.none_)) := by
        show _ = _
        rw [eGC0]
        have := made_flat (List.replicate l.length ()) #[Value.int .i64 0, .int .i64 0] (by decide)
        rw [List.length_replicate] at this
        rw [show l.length * 2 = l.length * (#[Value.int .i64 0, .int .i64 0] : Array Value).size from rfl, this]
        simp [grsV, List.flatMap_replicate, Gr.cells, Gr.none_]
      have hmD : ∀ w : World, (Instr.makeSlice 24 (.int .i64 (l.length : Int)) (.int .i64 (l.length : Int))).run Try.prog w = .ok (.slice (some ⟨w.heap.size, 0, none⟩) l.length l.length) (w.alloc (.cells DC 4)) := fun w => by
        obtain ⟨i0, hi, hz0, hz1, hz2⟩ := info_parts Try.infoBoolsF
        have := run_make w 24 4 i0 (.bool false) Try.underlying24 hi hz0 .i64 .i64 (l.length : Int) (l.length : Int) (by omega) (Int.le_refl _) (by rw [hz2]; omega) (by omega)
        rw [this, Int.toNat_natCast, hz1, eDC0]; rfl
      have hmH : ∀ w : World, (Instr.makeSlice 22 (.int .i64 (l.length : Int)) (.int .i64 (l.length : Int))).run Try.prog w = .ok (.slice (some ⟨w.heap.size, 0, none⟩) l.length l.length) (w.alloc (.cells HC 44)) := fun w => by
        obtain ⟨i0, hi, hz0, hz1, hz2⟩ := info_parts Try.infoParts
        have := run_make w 22 44 i0 _ Try.underlying22 hi hz0 .i64 .i64 (l.length : Int) (l.length : Int) (by omega) (Int.le_refl _) (by rw [hz2]; omega) (by omega)
        rw [this, Int.toNat_natCast, hz1, eHC0]; rfl
      have hmG : ∀ w : World, (Instr.makeSlice 25 (.int .i64 (l.length : Int)) (.int .i64 (l.length : Int))).run Try.prog w = .ok (.slice (some ⟨w.heap.size, 0, none⟩) l.length l.length) (w.alloc (.cells GC 76)) := fun w => by
        obtain ⟨i0, hi, hz0, hz1, hz2⟩ := info_parts Try.infoGrantsF
        have := run_make w 25 76 i0 _ Try.underlying25 hi hz0 .i64 .i64 (l.length : Int) (l.length : Int) (by omega) (Int.le_refl _) (by rw [hz2]; omega) (by omega)
        rw [this, Int.toNat_natCast, hz1, eGC0]; rfl
      clear eDC0 eHC0 eGC0 hw
      go_upto_region 6 with (fail)
      go_cut [9] (fun s wx => NewCut W wx gR l s)
      case first =>
        have hT : True := trivial
        have hb := (Below.refl W.heap.size W).drew
        refine wp_region_late (S := fun _ => True) [] (by kernel_rfl) trivial (fun _ => ?_)
        obtain ⟨wv, hwv⟩ : ∃ x, x = W.drew := ⟨_, rfl⟩
        rw [← hwv] at hb ⊢
        clear hwv
        (refine wpAnyLT_take (i := 0) (oi := { dst := some 28, op := Op.move (Operand.tmp 1), type := 23, pos := "farm.go:21", after := #[], guard := none }) (v := ?_) rfl (by kernel_rfl) (by kernel_rfl) (by kernel_rfl) (fun _ _ _ h => h) (Or.inl ⟨by rfl, ?_⟩) (by assumption) (by kernel_rfl) (by rfl) (by kernel_rfl) ?_; rotate_left; (focus (intro w hSw; (try dsimp only at hSw); go_simp; (try with_reducible rfl))); (try simp only [Act.put, List.setIfInBounds_toArray, List.set_cons_zero, List.set_cons_succ]))
        (refine wpAnyLT_take (i := 2) (oi := { dst := some 30, op := Op.move (Operand.tmp 1), type := 23, pos := "farm.go:21", after := #[], guard := none }) (v := ?_) rfl (by kernel_rfl) (by kernel_rfl) (by kernel_rfl) (fun _ _ _ h => h) (Or.inl ⟨by rfl, ?_⟩) (by assumption) (by kernel_rfl) (by rfl) (by kernel_rfl) ?_; rotate_left; (focus (intro w hSw; (try dsimp only at hSw); go_simp; (try with_reducible rfl))); (try simp only [Act.put, List.setIfInBounds_toArray, List.set_cons_zero, List.set_cons_succ]))
        (refine wpAnyLT_take (i := 3) (oi := { dst := some 31, op := Op.call { callee := Callee.builtin Builtin.len, args := #[Operand.tmp 30], argTypes := #[23] }, type := 3, pos := "farm.go:21", after := #[{ on := 2, ground := Ground.data }], guard := none }) (v := ?_) rfl (by kernel_rfl) (by kernel_rfl) (by kernel_rfl) (fun _ _ _ h => h) (Or.inl ⟨by rfl, ?_⟩) (by assumption) (by kernel_rfl) (by rfl) (by kernel_rfl) ?_; rotate_left; (focus (intro w hSw; (try dsimp only at hSw); go_simp; (try with_reducible rfl))); (try simp only [Act.put, List.setIfInBounds_toArray, List.set_cons_zero, List.set_cons_succ]))
        (refine wpAnyLT_take (i := 5) (oi := { dst := some 33, op := Op.move (Operand.tmp 1), type := 23, pos := "farm.go:21", after := #[], guard := none }) (v := ?_) rfl (by kernel_rfl) (by kernel_rfl) (by kernel_rfl) (fun _ _ _ h => h) (Or.inl ⟨by rfl, ?_⟩) (by assumption) (by kernel_rfl) (by rfl) (by kernel_rfl) ?_; rotate_left; (focus (intro w hSw; (try dsimp only at hSw); go_simp; (try with_reducible rfl))); (try simp only [Act.put, List.setIfInBounds_toArray, List.set_cons_zero, List.set_cons_succ]))
        (refine wpAnyLT_take (i := 6) (oi := { dst := some 34, op := Op.call { callee := Callee.builtin Builtin.len, args := #[Operand.tmp 33], argTypes := #[23] }, type := 3, pos := "farm.go:21", after := #[{ on := 5, ground := Ground.data }], guard := none }) (v := ?_) rfl (by kernel_rfl) (by kernel_rfl) (by kernel_rfl) (fun _ _ _ h => h) (Or.inl ⟨by rfl, ?_⟩) (by assumption) (by kernel_rfl) (by rfl) (by kernel_rfl) ?_; rotate_left; (focus (intro w hSw; (try dsimp only at hSw); go_simp; (try with_reducible rfl))); (try simp only [Act.put, List.setIfInBounds_toArray, List.set_cons_zero, List.set_cons_succ]))
        (refine wpAnyLT_take (i := 8) (oi := { dst := some 36, op := Op.move (Operand.tmp 1), type := 23, pos := "farm.go:21", after := #[], guard := none }) (v := ?_) rfl (by kernel_rfl) (by kernel_rfl) (by kernel_rfl) (fun _ _ _ h => h) (Or.inl ⟨by rfl, ?_⟩) (by assumption) (by kernel_rfl) (by rfl) (by kernel_rfl) ?_; rotate_left; (focus (intro w hSw; (try dsimp only at hSw); go_simp; (try with_reducible rfl))); (try simp only [Act.put, List.setIfInBounds_toArray, List.set_cons_zero, List.set_cons_succ]))
        (refine wpAnyLT_take (i := 9) (oi := { dst := some 37, op := Op.call { callee := Callee.builtin Builtin.len, args := #[Operand.tmp 36], argTypes := #[23] }, type := 3, pos := "farm.go:21", after := #[{ on := 8, ground := Ground.data }], guard := none }) (v := ?_) rfl (by kernel_rfl) (by kernel_rfl) (by kernel_rfl) (fun _ _ _ h => h) (Or.inl ⟨by rfl, ?_⟩) (by assumption) (by kernel_rfl) (by rfl) (by kernel_rfl) ?_; rotate_left; (focus (intro w hSw; (try dsimp only at hSw); go_simp; (try with_reducible rfl))); (try simp only [Act.put, List.setIfInBounds_toArray, List.set_cons_zero, List.set_cons_succ]))
        refine wp_gen (fun a0 ha0 => ?_)
        refine wpAnyL_inv' (I := fun listed a wx => ∃ (b1 b4 b7 b10 b11 b12 : Bool) (x9 x29 x32 x35 x38 x39 : Value), listed = #[true, b1, true, true, b4, true, true, b7, true, true, b10, b11, b12, false] ∧ a = (((((a0.put (some 9) x9).put (some 29) x29).put (some 32) x32).put (some 35) x35).put (some 38) x38).put (some 39) x39 ∧ NwD W wx l DC HC GC b1 b4 b7 b10 b11 b12 x9 x29 x32 x35 x38 x39)
          (fun L => L.getD 11 false && L.getD 12 false) (fun L => L.toList.countP (fun b => !b) - 1) 1 ?step ?fin _ _ _ _ ?start ?meas
        case start =>
          subst ha0
          exact ⟨false, false, false, false, false, false, undef, undef, undef, undef, undef, undef, rfl, rfl, ⟨hb, (fun e => by cases e), (fun e => by cases e), (fun e => by cases e), (fun e => by cases e), (fun e => by cases e), (fun e => by cases e)⟩⟩
        case meas => decide
        case step =>
          rintro listed a wx ⟨b1, b4, b7, b10, b11, b12, x9, x29, x32, x35, x38, x39, rfl, rfl, hd⟩ hE
          refine ⟨fun h0 => (by have hs := nw_some b1 b4 b7 b10 b11 b12; rw [h0] at hs; cases hs), fun i hi => ?_⟩
          have hc := List.all_eq_true.1 (nw_ready b1 b4 b7 b10 b11 b12) i hi
          simp only [Bool.or_eq_true, Bool.and_eq_true, beq_iff_eq, Bool.not_eq_true'] at hc
          clear hi hb
          subst ha0
          rcases hc with (((((⟨rfl, rfl⟩ | ⟨rfl, rfl⟩) | ⟨rfl, rfl⟩) | ⟨rfl, rfl⟩) | ⟨rfl, rfl⟩) | ⟨⟨⟨⟨⟨rfl, rfl⟩, rfl⟩, rfl⟩, rfl⟩, rfl⟩) | ⟨⟨rfl, rfl⟩, rfl⟩
          · refine ⟨(by clear hd hE; revert b4 b7 b10 b11 b12; decide), stepI (o := { dst := some 29, op := Op.call { callee := Callee.value (Operand.func 40), args := #[Operand.tmp 28], argTypes := #[23] }, type := 23, pos := "farm.go:21", after := #[{ on := 0, ground := Ground.data }], guard := none }) rfl (fun K hK => ?_)⟩
            simp only [Act.put, List.setIfInBounds_toArray, List.set_cons_zero, List.set_cons_succ]
            (try go_simp)
            go_at_call 40
            refine (cloneNodesF_any A2 l.length c2 (ndCells l) wx ((HL.out.below hd.below).more hd.below.size) (nds_one _) (by omega) (by omega)).mono ?_
            rintro e wn ⟨v1, rfl, o1, hst⟩
            obtain ⟨A1, c1, rfl, _, _⟩ := own_form o1
            replace o1 := o1.mono (base' := W.heap.size) hd.below.size
            go_wp2_with fail
            refine hK.out _ _ (fun _ => trivial) ?_
            clear hK K
            exact ⟨true, b4, b7, b10, b11, b12, x9, _, x32, x35, x38, x39, rfl, rfl, hd.set1 hst o1⟩
          · refine ⟨(by clear hd hE; revert b1 b7 b10 b11 b12; decide), stepI (o := { dst := some 32, op := Op.makeSlice 24 (Operand.tmp 31) (Operand.tmp 31), type := 24, pos := "farm.go:21", after := #[{ on := 3, ground := Ground.data }, { on := 3, ground := Ground.data }], guard := none }) rfl (fun K hK => ?_)⟩
            simp only [Act.put, List.setIfInBounds_toArray, List.set_cons_zero, List.set_cons_succ]
            go_simp
            refine hK.out _ _ (fun _ => trivial) ?_
            clear hK K
            exact ⟨b1, true, b7, b10, b11, b12, x9, x29, _, x35, x38, x39, rfl, rfl, hd.set4 ((Below.refl _ _).alloc (Nat.le_refl _) _) hd.below.size (Blk.new wx 4 DC)⟩
          · refine ⟨(by clear hd hE; revert b1 b4 b10 b11 b12; decide), stepI (o := { dst := some 35, op := Op.makeSlice 22 (Operand.tmp 34) (Operand.tmp 34), type := 22, pos := "farm.go:21", after := #[{ on := 6, ground := Ground.data }, { on := 6, ground := Ground.data }], guard := none }) rfl (fun K hK => ?_)⟩
            simp only [Act.put, List.setIfInBounds_toArray, List.set_cons_zero, List.set_cons_succ]
            go_simp
            refine hK.out _ _ (fun _ => trivial) ?_
            clear hK K
            exact ⟨b1, b4, true, b10, b11, b12, x9, x29, x32, _, x38, x39, rfl, rfl, hd.set7 ((Below.refl _ _).alloc (Nat.le_refl _) _) hd.below.size (Blk.new wx 44 HC)⟩
          · refine ⟨(by clear hd hE; revert b1 b4 b7 b11 b12; decide), stepI (o := { dst := some 38, op := Op.makeSlice 25 (Operand.tmp 37) (Operand.tmp 37), type := 25, pos := "farm.go:21", after := #[{ on := 9, ground := Ground.data }, { on := 9, ground := Ground.data }], guard := none }) rfl (fun K hK => ?_)⟩
            simp only [Act.put, List.setIfInBounds_toArray, List.set_cons_zero, List.set_cons_succ]
            go_simp
            refine hK.out _ _ (fun _ => trivial) ?_
            clear hK K
            exact ⟨b1, b4, b7, true, b11, b12, x9, x29, x32, x35, _, x39, rfl, rfl, hd.set10 ((Below.refl _ _).alloc (Nat.le_refl _) _) hd.below.size (Blk.new wx 76 GC)⟩
          · refine ⟨(by clear hd hE; revert b1 b4 b7 b10 b11; decide), stepI (o := { dst := some 9, op := Op.alloc 29, type := 0, pos := "farm.go:21", after := #[], guard := none }) rfl (fun K hK => ?_)⟩
            simp only [Act.put, List.setIfInBounds_toArray, List.set_cons_zero, List.set_cons_succ]
            go_simp
            refine hK.out _ _ (fun _ => trivial) ?_
            clear hK K
            exact ⟨b1, b4, b7, b10, b11, true, _, x29, x32, x35, x38, x39, rfl, rfl, hd.set12 ((Below.refl _ _).alloc (Nat.le_refl _) _) hd.below.size (Blk.new wx 29 #[.slice none 0 0, .slice none 0 0, .int .i64 0, .slice none 0 0, .slice none 0 0, .slice none 0 0, .slice none 0 0, .slice none 0 0])⟩
          · refine ⟨(by clear hd hE; revert b12; decide), stepI (o := { dst := some 39, op := Op.build 29 #[(1, Operand.tmp 29), (3, Operand.tmp 32), (4, Operand.tmp 35), (5, Operand.tmp 38)], type := 29, pos := "farm.go:21", after := #[{ on := 1, ground := Ground.data }, { on := 4, ground := Ground.data }, { on := 7, ground := Ground.data }, { on := 10, ground := Ground.data }], guard := none }) rfl (fun K hK => ?_)⟩
            obtain ⟨A1, c1, rfl, o1⟩ := hd.d1 rfl
            obtain ⟨gD, rfl, kD, gDb⟩ := hd.d4 rfl
            obtain ⟨gH, rfl, kH, gHb⟩ := hd.d7 rfl
            obtain ⟨gG, rfl, kG, gGb⟩ := hd.d10 rfl
            clear o1 kD gDb kH gHb kG gGb
            simp only [Act.put, List.setIfInBounds_toArray, List.set_cons_zero, List.set_cons_succ]
            go_simp
            refine hK.out _ _ (fun _ => trivial) ?_
            clear hK K
            exact ⟨true, true, true, true, true, b12, x9, _, _, _, _, _, rfl, rfl, hd.set11⟩
          · cases hE
        case fin =>
          rintro listed a wx ⟨b1, b4, b7, b10, b11, b12, x9, x29, x32, x35, x38, x39, rfl, rfl, hd⟩ hE fuel hf
          obtain ⟨rfl, rfl⟩ : b11 = true ∧ b12 = true := by clear hd; revert b1 b4 b7 b10 b11 b12; decide
          obtain ⟨rfl, rfl, rfl, rfl, rfl⟩ := hd.d11 rfl
          obtain ⟨A1, c1, rfl, o1⟩ := hd.d1 rfl
          obtain ⟨gD, rfl, kD, gDb⟩ := hd.d4 rfl
          obtain ⟨gH, rfl, kH, gHb⟩ := hd.d7 rfl
          obtain ⟨gG, rfl, kG, gGb⟩ := hd.d10 rfl
          obtain ⟨gB, rfl, kB, gBb⟩ := hd.d12 rfl
          have hb' := hd.below
          obtain ⟨f', rfl⟩ : ∃ f', fuel = f' + 1 := ⟨fuel - 1, by omega⟩
          clear hd hE hf hb
          subst ha0
          have hb := hb'
          clear hb'
          simp only [Act.put, List.setIfInBounds_toArray, List.set_cons_zero, List.set_cons_succ]
          ((have r0 := (kB).cell 0; have r1 := (kB).cell 1; have r2 := (kB).cell 2; have r3 := (kB).cell 3; have r4 := (kB).cell 4; have r5 := (kB).cell 5; have r6 := (kB).cell 6; have r7 := (kB).cell 7); (have z0 := (kB).frozen 0; have z1 := (kB).frozen 1; have z2 := (kB).frozen 2; have z3 := (kB).frozen 3; have z4 := (kB).frozen 4; have z5 := (kB).frozen 5; have z6 := (kB).frozen 6; have z7 := (kB).frozen 7); (refine wpAnyL_ready (rs := [13]) (by kernel_rfl) (by simp) ?_; refine List.forall_mem_cons.2 ⟨?_, fun _ h => by cases h⟩); (refine stepL (o := { dst := none, op := Op.store 29 (Operand.tmp 9) (Operand.tmp 39), type := 0, pos := "farm.go:21", after := #[{ on := 12, ground := Ground.data }, { on := 11, ground := Ground.data }, { on := 1, ground := Ground.chain }, { on := 0, ground := Ground.phase }, { on := 1, ground := Ground.phase }, { on := 2, ground := Ground.phase }, { on := 3, ground := Ground.phase }, { on := 4, ground := Ground.phase }, { on := 5, ground := Ground.phase }, { on := 6, ground := Ground.phase }, { on := 7, ground := Ground.phase }, { on := 8, ground := Ground.phase }, { on := 9, ground := Ground.phase }, { on := 10, ground := Ground.phase }, { on := 11, ground := Ground.phase }, { on := 12, ground := Ground.phase }], guard := none }) rfl (fun K hK => ?_); go_simp; refine hK.out _ _ trivial (fun hHeld => ?_); (clear hK K; (try simp only [Act.put, List.setIfInBounds_toArray, List.set_cons_zero, List.set_cons_succ]))); refine wpAnyL_done (by kernel_rfl) ?_ _; go_wp2; go_meet; exact new_cut kR hb (Lib.hid ⟨rfl, hl23⟩) o1 kD gDb eDC kH gHb eHC kG gGb eGC kB gBb)
      case rest =>
        obtain ⟨g, f0, rfl, h0, e0, kR0, hB0⟩ := hcut
        have hp1 : PtsAt W W.heap.size A ps := hp.keep hB hB.size
        have hgRl := kR.lt
        clear kR hmD hmH hmG DC HC GC eDC eHC eGC
        obtain ⟨i0, hi, hz0, hz1, hz2⟩ := info_parts Try.infoParts
        have hgR0 : W.heap.size ≤ g := h0.lo
        have hgRW : gR < W.heap.size := hgRl
        go_wp2
        go_loopw [42] (fun i wr => ∃ (k : Nat) (fk : FrM), k ≤ ps.length ∧ i = .int .i64 k ∧ Hid (fk.er = newF ((ps.take k).map PtM.er) l 0) ∧ Hid (∀ p ∈ ps.take k, ckPart p.er = 0) ∧ FB wr W.heap.size g fk ∧ Blk wr gR 29 #[.slice none 0 0, .slice none 0 0, .int .i64 0, .slice none 0 0, .slice none 0 0, .slice none 0 0, .slice none 0 0, .slice none 0 0] ∧ Below W.heap.size W wr) (fun i _ => ps.length - (intOf i).toNat)
        case atStart => exact ⟨0, f0, Nat.zero_le _, rfl, Lib.hid (by simpa using e0), Lib.hid (fun p hp => absurd hp (by simp)), h0, kR0, hB0⟩
        case round =>
          clear h0 e0 kR0 hB0 f0
          obtain ⟨k, fk, hk, rfl, he, hz, h0, kR0, hB0⟩ := hrel
          by_cases hlt : k < ps.length
          · obtain ⟨p, hpk⟩ : ∃ p, ps[k]? = some p := ⟨_, List.getElem?_eq_getElem hlt⟩
            have hP := (hp1.each p (List.mem_of_getElem? hpk)).keep hB0 hB0.size
            obtain ⟨b, off, rfl, bl, c0, c1⟩ := pt_get (hp1.row.below hB0) hpk
            have HP := Lib.hid hpk
            have hbx : Below wr.heap.size wr (wr.alloc (.cells #[.slice (p).fa (p).frs.length (p).fc, .slice (p).da (p).dfs.length (p).dc] 44)) := by (repeat' (first | exact Below.refl _ _ | assumption | refine Below.setCell ?_ (by first | omega | exact Below.size (by assumption) | (simp; done) | (simp; omega)) _ | refine Below.alloc ?_ (by first | omega | exact Below.size (by assumption) | (simp; done) | (simp; omega)) _ | refine Below.drew ?_ | refine below_drewN ?_ _))
            have kp := Blk.new wr 44 #[.slice p.fa p.frs.length p.fc, .slice p.da p.dfs.length p.dc]
            have hol := fun x hx => (h0.own.ps.lt x hx).2
            clear hpk
            go_upto_region 10 with (fail)
            replace hP := hP.all hbx
            replace h0 := h0.all hbx
            replace kR0 := kR0.all hbx
            replace hB0 := hB0.trans (hbx.mono hB0.size)
            obtain ⟨gp, hgp⟩ : ∃ y, y = wr.heap.size := ⟨_, rfl⟩
            obtain ⟨w4, hw4⟩ : ∃ y, y = wr.alloc (.cells #[.slice (p).fa (p).frs.length (p).fc, .slice (p).da (p).dfs.length (p).dc] 44) := ⟨_, rfl⟩
            rw [← hgp] at kp hol ⊢
            rw [← hw4] at kp hP h0 kR0 hB0 ⊢
            clear hw4 hgp hbx c0 c1
            have q0 := kp.cell 0
            have q1 := kp.cell 1
            go_wp2_with fail
            refine (check_any p w4 hP).mono ?_
            rintro e w5 ⟨rfl, hb5⟩
            replace hP := hP.all hb5
            replace h0 := h0.all hb5
            replace kR0 := kR0.all hb5
            replace kp := kp.all hb5
            replace hB0 := hB0.trans (hb5.mono hB0.size)
            obtain ⟨n, hn⟩ : ∃ n, ckPart p.er = n := ⟨_, rfl⟩
            rw [hn]
            have HN2 := Lib.hid hn
            clear q0 q1 hn hb5
            by_cases hn0 : n = 0
            · subst hn0
              have HZ2 : Hid (∀ q ∈ ps.take (k + 1), ckPart q.er = 0) := fun q hq => by
                rw [List.take_add_one, HP.out] at hq
                rcases List.mem_append.1 hq with hq | hq
                · exact hz.out q hq
                · obtain rfl : q = p := by simpa using hq
                  exact HN2.out
              have hlk : fk.ps.length = k := by have := congrArg (fun f => f.ps.length) he.out; simpa [FrM.er, newF, Nat.min_eq_left hk] using this
              have HLK := Lib.hid hlk
              have hlk12 : fk.ps.length ≤ 12 := by omega
              clear hlk
              go_upto_region 13 with (fail)
              have kF := h0.blk
              have hS : Hid (∀ w', Below w5.heap.size w5 w' → (w'.cell? ⟨g, 0, none⟩ = some (.slice fk.pa fk.ps.length fk.pc) ∧ w'.cell? ⟨gp, 0, none⟩ = some (.slice p.fa p.frs.length p.fc) ∧ w'.cell? ⟨gp, 1, none⟩ = some (.slice p.da p.dfs.length p.dc))) :=
                fun w' h => ⟨(kF.all h).cell 0, (kp.all h).cell 0, (kp.all h).cell 1⟩
              have hb := (Below.refl w5.heap.size w5).drew
              refine wp_region_late (S := (fun w' => w'.cell? ⟨g, 0, none⟩ = some (.slice fk.pa fk.ps.length fk.pc) ∧ w'.cell? ⟨gp, 0, none⟩ = some (.slice p.fa p.frs.length p.fc) ∧ w'.cell? ⟨gp, 1, none⟩ = some (.slice p.da p.dfs.length p.dc))) [5, 6, 7] (by kernel_rfl) (hS.out _ hb) (fun hHeld => ?_)
              obtain ⟨wv, hwv⟩ : ∃ x, x = w5.drew := ⟨_, rfl⟩
              rw [← hwv] at hb hHeld ⊢
              clear hwv
              (refine wpAnyLT_take (i := 0) (oi := { dst := some 52, op := Op.fieldAddr 29 (Operand.tmp 9) 0, type := 0, pos := "farm.go:26", after := #[], guard := none }) (v := ?_) rfl (by kernel_rfl) (by kernel_rfl) (by kernel_rfl) (fun _ _ _ h => h) (Or.inl ⟨by rfl, ?_⟩) (by assumption) (by kernel_rfl) (by rfl) (by kernel_rfl) ?_; rotate_left; (focus (intro w hSw; (try dsimp only at hSw); go_simp; (try with_reducible rfl))); (try simp only [Act.put, List.setIfInBounds_toArray, List.set_cons_zero, List.set_cons_succ]))
              (refine wpAnyLT_take (i := 1) (oi := { dst := some 53, op := Op.load 22 (Operand.tmp 52), type := 22, pos := "farm.go:26", after := #[{ on := 0, ground := Ground.data }], guard := none }) (v := ?_) rfl (by kernel_rfl) (by kernel_rfl) (by kernel_rfl) (fun _ _ _ h => h) (Or.inl ⟨by rfl, ?_⟩) (by assumption) (by kernel_rfl) (by rfl) (by kernel_rfl) ?_; rotate_left; (focus (intro w hSw; (try dsimp only at hSw); go_simp; (try with_reducible rfl))); (try simp only [Act.put, List.setIfInBounds_toArray, List.set_cons_zero, List.set_cons_succ]))
              (refine wpAnyLT_take (i := 2) (oi := { dst := some 54, op := Op.load 44 (Operand.tmp 11), type := 44, pos := "farm.go:26", after := #[], guard := none }) (v := ?_) rfl (by kernel_rfl) (by kernel_rfl) (by kernel_rfl) (fun _ _ _ h => h) (Or.inl ⟨by rfl, ?_⟩) (by assumption) (by kernel_rfl) (by rfl) (by kernel_rfl) ?_; rotate_left; (focus (intro w hSw; (try dsimp only at hSw); go_simp; (try with_reducible rfl))); (try simp only [Act.put, List.setIfInBounds_toArray, List.set_cons_zero, List.set_cons_succ]))
              have CP := Lib.hid (copy_any p wv (hP.all hb) (small_of HN2.out))
              have HBW := Lib.hid (hB0.trans (hb.mono hB0.size))
              (refine wpAnyL_ready (rs := [3]) (by kernel_rfl) (by simp) ?_; refine List.forall_mem_cons.2 ⟨?_, fun _ h => by cases h⟩)
              (refine stepL (o := { dst := some 55, op := Op.call { callee := Callee.value (Operand.func 41), args := #[Operand.tmp 54], argTypes := #[44] }, type := 44, pos := "farm.go:26", after := #[{ on := 2, ground := Ground.data }], guard := none }) rfl (fun K hK => ?_); (try go_simp); (go_at_call 41; refine CP.out.mono ?_; rintro e w6 ⟨q, rfl, hqo, hqe, hb5'⟩; have hb5 := hb.trans (hb5'.mono hb.size)); go_wp2_with fail; refine hK.out _ _ (hS.out _ hb5) (fun hHeld => ?_); (clear hK K; (try simp only [Act.put, List.setIfInBounds_toArray, List.set_cons_zero, List.set_cons_succ])))
              (refine wpAnyL_ready (rs := [4]) (by kernel_rfl) (by simp) ?_; refine List.forall_mem_cons.2 ⟨?_, fun _ h => by cases h⟩)
              (refine stepL (o := { dst := some 56, op := Op.buildSlice 22 1 #[(0, Operand.tmp 55)], type := 22, pos := "farm.go:26", after := #[{ on := 3, ground := Ground.data }], guard := none }) rfl (fun K hK => ?_); go_simp; refine hK.out _ _ (hS.out _ (hb5.alloc hb5.size _)) (fun hHeld => ?_); (clear hK K; (try simp only [Act.put, List.setIfInBounds_toArray, List.set_cons_zero, List.set_cons_succ])))
              have kS := Blk.new w6 44 #[.slice q.fa q.frs.length q.fc, .slice q.da q.dfs.length q.dc]
              have hBx' := hb5.alloc hb5.size (.cells #[.slice q.fa q.frs.length q.fc, .slice q.da q.dfs.length q.dc] 44)
              have hqo2 := (hqo.mono (base' := W.heap.size) HBW.out.size).alloc (.cells #[.slice q.fa q.frs.length q.fc, .slice q.da q.dfs.length q.dc] 44)
              obtain ⟨gs, hgs⟩ : ∃ y, y = w6.heap.size := ⟨_, rfl⟩
              obtain ⟨wx, hwx⟩ : ∃ y, y = w6.alloc (.cells #[.slice q.fa q.frs.length q.fc, .slice q.da q.dfs.length q.dc] 44) := ⟨_, rfl⟩
              rw [← hgs] at kS ⊢
              rw [← hwx] at kS hBx' hqo2 hHeld ⊢
              clear hwx hgs
              have rs : Reads wx wx.heap.size 2 (some ⟨gs, 0, none⟩) 1 q.cells := kS.reads (size := 2) (n := 1) rfl
              have h8 := h0.all hBx'
              have kR8 := kR0.all hBx'
              have hBx := hB0.trans (hBx'.mono hB0.size)
              have oP := h8.own.ps
              (refine wpAnyL_ready (rs := [5]) (by kernel_rfl) (by simp) ?_; refine List.forall_mem_cons.2 ⟨?_, fun _ h => by cases h⟩)
              (refine stepLate (o := { dst := some 57, op := Op.call { callee := Callee.builtin Builtin.append, args := #[Operand.tmp 53, Operand.tmp 56], argTypes := #[22, 22] }, type := 22, pos := "farm.go:26", after := #[{ on := 1, ground := Ground.data }, { on := 4, ground := Ground.data }, { on := 3, ground := Ground.chain }], guard := none }) rfl (by rfl) (fun K hK => ?_); refine step_append_any _ rfl (.tmp 53) (.tmp 56) 22 rfl W.heap.size 44 i0 (.agg #[.slice none 0 0, .slice none 0 0]) 2 48 Try.underlying22 hi hz0 hz1 hz2 rfl (by decide) _ _ _ rfl oP _ (some ⟨gs, 0, none⟩) 1 1 q.cells rfl rs (pt_one q) ?c2 ?c3 ?c4 ?_; (case c2 => unfold maxLen; omega); (case c3 => omega); (case c4 => exact hBx.size); intro v7 w7 ho7 hg7 hor; refine hK.out _ _ ?_; (clear hK K; (try simp only [Act.put, List.setIfInBounds_toArray, List.set_cons_zero, List.set_cons_succ])))
              obtain ⟨A7, c7, rfl, _, _⟩ := own_form ho7
              have ho8 : w7.ownsRow W.heap.size 44 2 (.slice A7 (fk.ps ++ [q]).length c7) (fk.ps ++ [q]).length (ptsV (fk.ps ++ [q])) := by
                rw [List.length_append]
                simpa [ptsV] using ho7
              have kF7 := h8.blk.grown hg7 (own_blk_ne oP h8.blk (by decide)).symm
              have kR7 := kR8.grown hg7 (own_blk_ne oP kR8 (by decide)).symm
              have hO7 := h8.own.parts (ps := fk.ps ++ [q]) (pa := A7) (pc := c7) hg7 (by rw [List.length_append]; exact hor) ho8 (fun y hy => by
                rcases List.mem_append.1 hy with hy | hy
                · exact (h8.own.pse y hy).grown_own hg7 oP
                · rw [List.mem_singleton.1 hy]
                  exact hqo2.grown_own hg7 oP)
              have r0 := kF7.cell 0
              have z0 := kF7.frozen 0
              have kZ := kF7.set_ 0 (.slice A7 (fk.ps.length + 1) c7)
              simp only [List.setIfInBounds_toArray, List.set_cons_zero, List.set_cons_succ] at kZ
              have h9 : FB (w7.setCell ⟨g, 0, none⟩ (.slice A7 (fk.ps.length + 1) c7)) W.heap.size g { fk with ps := fk.ps ++ [q], pa := A7, pc := c7 } := ⟨by simp only [List.length_append, List.length_singleton]; exact kZ, hO7.box kF7 _, hgR0⟩
              have hgRg : gR ≠ g := fun e => by subst e; have := kR0.lt; have h3 := h0.blk; have := hgRW; omega
              have kR9 := kR7.far (p := ⟨g, 0, none⟩) hgRg (.slice A7 (fk.ps.length + 1) c7)
              have hB9 := (hBx.grown hg7 hBx.size (fun x hx => (oP.lt x hx).1)).setCell (p := ⟨g, 0, none⟩) hgR0 (.slice A7 (fk.ps.length + 1) c7)
              have he9 : Hid (({ fk with ps := fk.ps ++ [q], pa := A7, pc := c7 } : FrM).er = newF ((ps.take (k + 1)).map PtM.er) l 0) := by
                show _ = _
                have := he.out
                simp only [FrM.er, newF, Frm.mk.injEq] at this ⊢
                refine ⟨?_, this.2⟩
                rw [List.take_add_one, HP.out, List.map_append, List.map_append, this.1]
                simp [hqe]
              clear CP hHeld hS oP hg7 ho7 ho8 hO7 kF7 kR7 kZ h8 kR8 h0 kR0 hB0 hBx hBx' kF kp hP hqo hqo2 hb hb5 hb5' kS rs hor
              (refine wpAnyL_ready (rs := [6]) (by kernel_rfl) (by simp) ?_; refine List.forall_mem_cons.2 ⟨stepLate (o := { dst := some 58, op := Op.fieldAddr 29 (Operand.tmp 9) 0, type := 0, pos := "farm.go:26", after := #[{ on := 0, ground := Ground.phase }, { on := 1, ground := Ground.phase }, { on := 2, ground := Ground.phase }, { on := 3, ground := Ground.phase }, { on := 4, ground := Ground.phase }, { on := 5, ground := Ground.phase }], guard := none }) rfl (by rfl) (fun K hK => ?_), fun _ h => by cases h⟩; go_simp; refine hK.out _ _ ?_; (clear hK K; (try simp only [Act.put, List.setIfInBounds_toArray, List.set_cons_zero, List.set_cons_succ])))
              (refine wpAnyL_ready (rs := [7]) (by kernel_rfl) (by simp) ?_; refine List.forall_mem_cons.2 ⟨stepLate (o := { dst := none, op := Op.store 22 (Operand.tmp 58) (Operand.tmp 57), type := 0, pos := "farm.go:26", after := #[{ on := 6, ground := Ground.data }, { on := 5, ground := Ground.data }, { on := 5, ground := Ground.chain }, { on := 0, ground := Ground.phase }, { on := 1, ground := Ground.phase }, { on := 2, ground := Ground.phase }, { on := 3, ground := Ground.phase }, { on := 4, ground := Ground.phase }, { on := 5, ground := Ground.phase }], guard := none }) rfl (by rfl) (fun K hK => ?_), fun _ h => by cases h⟩; go_simp; refine hK.out _ _ ?_; (clear hK K; (try simp only [Act.put, List.setIfInBounds_toArray, List.set_cons_zero, List.set_cons_succ])))
              refine wpAnyL_done (by kernel_rfl) ?_ _
              go_wp2
              go_roundw
              case rel => exact ⟨k + 1, _, by omega, by go_num, he9, HZ2, h9, kR9, hB9⟩
              case measure => simp [intOf]; omega
            · have hx : (n != 0) = true := by simpa using hn0
              have HE : Hid (newP (ps.map PtM.er) l nw = (.nil, n)) := by
                show _ = _
                unfold newP
                have hfb : firstBad ((ps.map PtM.er).map ckPart) = n := by
                  have e1 := first_bad (f := fun p : PtM => ckPart p.er) hz.out HP.out (by show ckPart p.er ≠ 0; rw [HN2.out]; exact hn0)
                  rw [List.map_map]
                  exact e1.trans HN2.out
                rw [if_neg (by rw [hplen]; exact fun hn => hn HN1.out), if_neg (by have := of_decide_eq_false d1; have := of_decide_eq_false d2; omega), hfb, if_pos hn0]
              (have r0 := (kR0).cell 0; have r1 := (kR0).cell 1; have r2 := (kR0).cell 2; have r3 := (kR0).cell 3; have r4 := (kR0).cell 4; have r5 := (kR0).cell 5; have r6 := (kR0).cell 6; have r7 := (kR0).cell 7)
              (have z0 := (kR0).frozen 0; have z1 := (kR0).frozen 1; have z2 := (kR0).frozen 2; have z3 := (kR0).frozen 3; have z4 := (kR0).frozen 4; have z5 := (kR0).frozen 5; have z6 := (kR0).frozen 6; have z7 := (kR0).frozen 7)
              have hBl := kR0.putz8
              have hBe := below_putz8 (hB.trans (hB0.mono hB.size)) hgR1
              (have y0 := (hBl).cell 0; have y1 := (hBl).cell 1; have y2 := (hBl).cell 2; have y3 := (hBl).cell 3; have y4 := (hBl).cell 4; have y5 := (hBl).cell 5; have y6 := (hBl).cell 6; have y7 := (hBl).cell 7)
              clear kR0 hB0 hBl h0 hn0 kp hP
              go_wp2
              refine bodyPost_ret (v := .tuple #[.agg #[.slice none 0 0, .slice none 0 0, .int .i64 0, .slice none 0 0, .slice none 0 0, .slice none 0 0, .slice none 0 0, .slice none 0 0], .int .i64 n]) (by simp [results, Try.results16, go_sem, y0, y1, y2, y3, y4, y5, y6, y7]) rfl ⟨FrM.nil, by rw [HE.out]; rfl, nilF_own _ _, by rw [HE.out]; rfl, hBe⟩
          · obtain rfl : k = ps.length := by omega
            rw [List.take_length] at he hz
            have hw1 : 1 ≤ nw ∧ nw ≤ 4 := by have := of_decide_eq_false d1; have := of_decide_eq_false d2; omega
            obtain ⟨m, hm⟩ : ∃ m : Nat, nw = m := ⟨nw.toNat, by omega⟩
            subst hm
            have hm4 : m ≤ 4 := by omega
            have HE : Hid (newP (ps.map PtM.er) l (m : Int) = (newF (ps.map PtM.er) l m, 0)) := by
              show _ = _
              unfold newP
              have hfb : firstBad ((ps.map PtM.er).map ckPart) = 0 := firstBad_zero.2 fun n hn => by
                rw [List.map_map] at hn
                obtain ⟨p, hp, rfl⟩ := List.mem_map.1 hn
                exact hz.out p hp
              rw [if_neg (by rw [hplen]; exact fun hn => hn HN1.out), if_neg (by omega), hfb, if_neg (by simp), Int.toNat_natCast]
            have hgRg : gR ≠ g := by omega
            clear hw1 d1 d2
            obtain ⟨i0, hi, hz0, hz1, hz2⟩ := info_parts Try.infoIntsF
            go_wp2
            go_loopw [61] (fun i wx => ∃ (j : Nat) (fj : FrM), j ≤ m ∧ i = .int .i64 j ∧ Hid (fj.er = newF (ps.map PtM.er) l j) ∧ FB wx W.heap.size g fj ∧ Blk wx gR 29 #[.slice none 0 0, .slice none 0 0, .int .i64 0, .slice none 0 0, .slice none 0 0, .slice none 0 0, .slice none 0 0, .slice none 0 0] ∧ Below W.heap.size W wx) (fun i _ => m - (intOf i).toNat)
            case atStart => exact ⟨0, fk, Nat.zero_le _, rfl, he, h0, kR0, hB0⟩
            case round =>
              clear h0 kR0 hB0 he fk
              obtain ⟨j, fj, hj, rfl, he, h0, kR0, hBr⟩ := hrel
              by_cases hjl : j < m
              · have kFr := h0.blk
                have oW := h0.own.wk
                have hlj : fj.wk.length = j := by have := congrArg (fun f => f.wk.length) he.out; simpa [FrM.er, newF] using this
                have hlj4 : fj.wk.length ≤ 4 := by omega
                have HLJ := Lib.hid hlj
                have q6 := kFr.cell 6
                clear hlj
                (go_wp2_with (at_builtin; refine wpList_append_own _ rfl (.tmp 64) (.tmp 65) 26 rfl W.heap.size 3 i0 (.int .i64 0) 1 8 Try.underlying26 hi hz0 hz1 hz2 rfl (by decide) _ _ _ rfl (oW.alloc (.cells #[.int .i64 (-1)] 3)) ⟨_, 0, none⟩ 1 1 [.int .i64 (-1)] rfl rfl ?c1 ?c2 ?c3 ?c4 ?c5 ?_; (case c1 => exact one_cell); (case c2 => intro u hu; simp at hu; subst hu; rfl); (case c3 => unfold maxLen; omega); (case c4 => omega); (case c5 => have := hBr.size; simp; omega); intro v' w9 hown9 hg9 _; obtain ⟨A9, c9, rfl, _, _⟩ := own_form hown9; have kF9 := (kFr.alloc (.cells #[.int .i64 (-1)] 3)).grown hg9 (own_blk_ne (oW.alloc (.cells #[.int .i64 (-1)] 3)) (kFr.alloc (.cells #[.int .i64 (-1)] 3)) (by decide)).symm; have c6 := kF9.cell 6; have f6 := kF9.frozen 6))
                have ho9 : w9.ownsRow W.heap.size 3 1 (.slice A9 (fj.wk ++ [-1]).length c9) (fj.wk ++ [-1]).length (intsV (fj.wk ++ [-1])) := by
                  rw [List.length_append]
                  simpa [intsV, intV] using hown9
                have hOa := h0.own.alloc (.cells #[.int .i64 (-1)] 3)
                have hO9 := hOa.work' (wk := fj.wk ++ [-1]) (wa := A9) (wc := c9) hg9 ho9
                have kZ := kF9.set_ 6 (.slice A9 (fj.wk.length + 1) c9)
                simp only [List.setIfInBounds_toArray, List.set_cons_zero, List.set_cons_succ] at kZ
                have h9 : FB (w9.setCell ⟨g, 6, none⟩ (.slice A9 (fj.wk.length + 1) c9)) W.heap.size g { fj with wk := fj.wk ++ [-1], wa := A9, wc := c9 } := ⟨by simp only [List.length_append, List.length_singleton]; exact kZ, hO9.box kF9 _, hgR0⟩
                have kR9 := ((kR0.alloc (.cells #[.int .i64 (-1)] 3)).grown hg9 (own_blk_ne (oW.alloc (.cells #[.int .i64 (-1)] 3)) (kR0.alloc (.cells #[.int .i64 (-1)] 3)) (by decide)).symm).far (p := ⟨g, 6, none⟩) hgRg (.slice A9 (fj.wk.length + 1) c9)
                have hB9 := ((hBr.alloc hBr.size (.cells #[.int .i64 (-1)] 3)).grown hg9 (by have := hBr.size; simp; omega) (fun x hx => (oW.lt x hx).1)).setCell (p := ⟨g, 6, none⟩) hgR0 (.slice A9 (fj.wk.length + 1) c9)
                have he9 : Hid (({ fj with wk := fj.wk ++ [-1], wa := A9, wc := c9 } : FrM).er = newF (ps.map PtM.er) l (j + 1)) := by
                  show _ = _
                  have := he.out
                  simp only [FrM.er, newF, Frm.mk.injEq] at this ⊢
                  refine ⟨this.1, this.2.1, this.2.2.1, this.2.2.2.1, this.2.2.2.2.1, this.2.2.2.2.2.1, ?_, this.2.2.2.2.2.2.2⟩
                  rw [this.2.2.2.2.2.2.1, List.replicate_succ']
                clear hg9 hown9 ho9 hOa hO9 kF9 kZ oW kFr h0 kR0 hBr
                go_wp2
                go_roundw
                case rel => exact ⟨j + 1, _, by omega, by go_num, he9, h9, kR9, hB9⟩
                case measure => simp [intOf]; omega
              · obtain rfl : j = m := by omega
                have kFj := h0.blk
                (have q0 := (kFj).cell 0; have q1 := (kFj).cell 1; have q2 := (kFj).cell 2; have q3 := (kFj).cell 3; have q4 := (kFj).cell 4; have q5 := (kFj).cell 5; have q6 := (kFj).cell 6; have q7 := (kFj).cell 7)
                (have r0 := (kR0).cell 0; have r1 := (kR0).cell 1; have r2 := (kR0).cell 2; have r3 := (kR0).cell 3; have r4 := (kR0).cell 4; have r5 := (kR0).cell 5; have r6 := (kR0).cell 6; have r7 := (kR0).cell 7)
                (have z0 := (kR0).frozen 0; have z1 := (kR0).frozen 1; have z2 := (kR0).frozen 2; have z3 := (kR0).frozen 3; have z4 := (kR0).frozen 4; have z5 := (kR0).frozen 5; have z6 := (kR0).frozen 6; have z7 := (kR0).frozen 7)
                have hPut := (h0.own.mono hB.size).put8 kR0 fj
                have hBl := kR0.put8 fj
                have hBe := below_put8 (hB.trans (hBr.mono hB.size)) hgR1 fj
                (have y0 := (hBl).cell 0; have y1 := (hBl).cell 1; have y2 := (hBl).cell 2; have y3 := (hBl).cell 3; have y4 := (hBl).cell 4; have y5 := (hBl).cell 5; have y6 := (hBl).cell 6; have y7 := (hBl).cell 7)
                clear kFj kR0 hBr hBl h0
                go_wp2
                refine bodyPost_ret (v := .tuple #[.agg #[.slice fj.pa fj.ps.length fj.pc, .slice fj.la fj.pl.length fj.lc, .int .i64 fj.now, .slice fj.da fj.dn.length fj.dc, .slice fj.ha fj.hv.length fj.hc, .slice fj.ga fj.gs.length fj.gc, .slice fj.wa fj.wk.length fj.wc, .slice fj.na fj.nt.length fj.nc], .int .i64 0]) (by simp [results, Try.results16, go_sem, y0, y1, y2, y3, y4, y5, y6, y7]) rfl ⟨fj, by rw [HE.out], hPut, by rw [HE.out]; exact he.out, hBe⟩
  · have HE : Hid (newP (ps.map PtM.er) l nw = (.nil, n1)) := by
      show _ = _
      unfold newP
      rw [hplen, hn1, if_pos h0]
    have hx : (n1 != 0) = true := by simpa using h0
    (have r0 := (kR).cell 0; have r1 := (kR).cell 1; have r2 := (kR).cell 2; have r3 := (kR).cell 3; have r4 := (kR).cell 4; have r5 := (kR).cell 5; have r6 := (kR).cell 6; have r7 := (kR).cell 7)
    (have z0 := (kR).frozen 0; have z1 := (kR).frozen 1; have z2 := (kR).frozen 2; have z3 := (kR).frozen 3; have z4 := (kR).frozen 4; have z5 := (kR).frozen 5; have z6 := (kR).frozen 6; have z7 := (kR).frozen 7)
    have hBl := kR.putz8
    have hBe := below_putz8 hB hgR1
    (have y0 := (hBl).cell 0; have y1 := (hBl).cell 1; have y2 := (hBl).cell 2; have y3 := (hBl).cell 3; have y4 := (hBl).cell 4; have y5 := (hBl).cell 5; have y6 := (hBl).cell 6; have y7 := (hBl).cell 7)
    clear kR hB hBl h0 hn1
    go_wp2
    refine bodyPost_ret (v := .tuple #[.agg #[.slice none 0 0, .slice none 0 0, .int .i64 0, .slice none 0 0, .slice none 0 0, .slice none 0 0, .slice none 0 0, .slice none 0 0], .int .i64 n1]) (by simp [results, Try.results16, go_sem, y0, y1, y2, y3, y4, y5, y6, y7]) rfl ⟨FrM.nil, by rw [HE.out]; rfl, nilF_own _ _, by rw [HE.out]; rfl, hBe⟩
end Go.Proofs.Ytkfmkemjoddinaa
