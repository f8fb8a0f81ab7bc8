/- ropewalkref.Found: what it computes. -/
import Derived.Test.YtmlomnhjbmocfaaDoorGrp
import Derived.Test.YtmlomnhjbmocfaaDoorArcD
import Derived.Test.YtmlomnhjbmocfaaDoorDropW
import Derived.Test.YtmlomnhjbmocfaaDoorB1
set_option linter.all false
namespace Go.Proofs.YtmlomnhjbmocfaaDoor
open Go.RowKit Go.Maps

theorem dfOk_of {p : Prt} (hc : ckPart p = 0) : ∀ d ∈ p.dfs, DfOk d := fun d hd => by
  have h := ((ok_iff p).1 hc).df d hd
  unfold ckDef at h
  by_cases h1 : nameB d.name = false
  · rw [if_pos h1] at h; cases h
  rw [if_neg h1] at h
  by_cases h2 : d.kind = 1 ∨ d.kind = 2
  · exact ⟨by rcases h2 with h2 | h2 <;> simp [h2], fun h3 => by omega⟩
  rw [if_neg h2] at h
  by_cases h3 : d.kind = 3
  · rw [if_pos h3] at h
    refine ⟨.inr (.inr h3), fun _ => ?_⟩
    by_cases h4 : d.frag ≠ 0 ∨ d.at_ ≠ 0 ∨ d.size < 1 ∨ 64 < d.size ∨ alignB d.align = false
    · rw [if_pos h4] at h; cases h
    · have ha : 1 ≤ d.align := by
        rcases hab : alignB d.align with _ | _
        · exact absurd (.inr (.inr (.inr (.inr hab)))) h4
        · unfold alignB at hab
          simp only [Bool.or_eq_true, beq_iff_eq] at hab
          omega
      omega
  · rw [if_neg h3] at h; cases h
def foundR (l1 l2 l3 : List Df) (s : ByteArray) : Df × Int :=
  if 1 < l1.length then (.zero, 6)
  else match l1 with
    | d :: _ => (d, 0)
    | [] => if 0 < l3.length then (⟨s, 3, 0, 0, sizeM l3, alignM l3⟩, 0)
      else match l2 with
        | d :: _ => (d, 0)
        | [] => (.zero, 7)
theorem found_r (l : List Df) (s : ByteArray) : foundL l s = foundR (ofKind s 1 l) (ofKind s 2 l) (ofKind s 3 l) s := rfl
theorem foundR_two {l1 l2 l3 : List Df} {s : ByteArray} (h : 1 < l1.length) : foundR l1 l2 l3 s = (.zero, 6) := if_pos h
theorem foundR_one {a : Df} {l2 l3 : List Df} {s : ByteArray} : foundR [a] l2 l3 s = (a, 0) := rfl
theorem foundR_com {l2 l3 : List Df} {s : ByteArray} (h : 0 < l3.length) : foundR [] l2 l3 s = (⟨s, 3, 0, 0, sizeM l3, alignM l3⟩, 0) := if_pos h
theorem foundR_weak {a : Df} {l2 l3 : List Df} {s : ByteArray} (h : ¬ 0 < l3.length) (h2 : l2[0]? = some a) : foundR [] l2 l3 s = (a, 0) := by
  rcases l2 with _ | ⟨b, r⟩
  · cases h2
  · simp at h2
    subst h2
    exact if_neg h
theorem foundR_none {l3 : List Df} {s : ByteArray} (h : ¬ 0 < l3.length) : foundR [] [] l3 s = (.zero, 7) := if_neg h
theorem ofKind_le (s : ByteArray) (k : Int) (l : List Df) : (ofKind s k l).length ≤ l.length := List.length_filter_le _ _

set_option maxHeartbeats 16000000 in
set_option maxRecDepth 100000 in
theorem refFound_any (p : PtM) (s : ByteArray) (w : World) (h : p.At w w.heap.size) (hc : ckPart p.er = 0) :
    Calls Tryd.prog 38 #[.agg #[.slice p.fa p.frs.length p.fc, .slice p.da p.dfs.length p.dc], .string s] w
      fun e w' => e = .returned (.tuple #[.agg #[.string ((findL p.dfs s).1).name, .int .i64 ((findL p.dfs s).1).kind, .int .i64 ((findL p.dfs s).1).frag, .int .i64 ((findL p.dfs s).1).at_, .int .i64 ((findL p.dfs s).1).size, .int .i64 ((findL p.dfs s).1).align], .int .i64 (findL p.dfs s).2]) ∧ Below w.heap.size w w' := by
  have hmm := @run_makeMap Tryd.prog
  obtain ⟨i0, hi, hz0, hz1, hz2⟩ := info_parts Tryd.infoDefs
  have hd60 : p.dfs.length ≤ 60 := (small_of hc).df
  have hok := dfOk_of hc
  have HF : Hid (foundL p.dfs s = findL p.dfs s) := found_eq hok s
  have HOK := Lib.hid hok
  clear hok hc
  have kP := ((Blk.new w 25 #[.slice p.fa p.frs.length p.fc, .slice p.da p.dfs.length p.dc]).alloc (.cells #[.string ⟨#[]⟩, .int .i64 0, .int .i64 0, .int .i64 0, .int .i64 0, .int .i64 0] 70)).alloc (.map #[] 0)
  have kR := (Blk.new' (w.alloc (.cells #[.slice (p).fa (p).frs.length (p).fc, .slice (p).da (p).dfs.length (p).dc] 25)) 70 #[.string ⟨#[]⟩, .int .i64 0, .int .i64 0, .int .i64 0, .int .i64 0, .int .i64 0] (g := w.heap.size + 1) (by simp)).alloc (.map #[] 0)
  have hb0 : Below w.heap.size w ((w.alloc (.cells #[.slice (p).fa (p).frs.length (p).fc, .slice (p).da (p).dfs.length (p).dc] 25)).alloc (.cells #[.string ⟨#[]⟩, .int .i64 0, .int .i64 0, .int .i64 0, .int .i64 0, .int .i64 0] 70)) := by (repeat' (first | exact Below.refl _ _ | assumption | refine Below.setCell ?_ (by first | omega | exact Below.size (by assumption) | (simp; done) | (simp; omega)) _ | refine Below.alloc ?_ (by first | omega | exact Below.size (by assumption) | (simp; done) | (simp; omega)) _ | refine Below.drew ?_ | refine below_drewN ?_ _))
  have hG0 := GrpIs.new ((w.alloc (.cells #[.slice (p).fa (p).frs.length (p).fc, .slice (p).da (p).dfs.length (p).dc] 25)).alloc (.cells #[.string ⟨#[]⟩, .int .i64 0, .int .i64 0, .int .i64 0, .int .i64 0, .int .i64 0] 70))
  have hb1 := hb0.alloc hb0.size (.map #[] 0)
  have hsz : ((w.alloc (.cells #[.slice (p).fa (p).frs.length (p).fc, .slice (p).da (p).dfs.length (p).dc] 25)).alloc (.cells #[.string ⟨#[]⟩, .int .i64 0, .int .i64 0, .int .i64 0, .int .i64 0, .int .i64 0] 70)).heap.size = w.heap.size + 1 + 1 := by simp
  rw [hsz] at hG0
  go_enter Tryd.func38, Tryd.ntmps38
  go_upto_region 2 with (fail)
  obtain ⟨W, hW⟩ : ∃ y, y = ((w.alloc (.cells #[.slice (p).fa (p).frs.length (p).fc, .slice (p).da (p).dfs.length (p).dc] 25)).alloc (.cells #[.string ⟨#[]⟩, .int .i64 0, .int .i64 0, .int .i64 0, .int .i64 0, .int .i64 0] 70)).alloc (.map #[] 0) := ⟨_, rfl⟩
  obtain ⟨g, hg⟩ : ∃ g, g = w.heap.size + 1 + 1 := ⟨_, rfl⟩
  obtain ⟨gR, hgR⟩ : ∃ g, g = w.heap.size + 1 := ⟨_, rfl⟩
  rw [← hg] at hG0 ⊢
  rw [← hgR] at kR ⊢
  rw [← hW] at kP kR hb1 hG0 ⊢
  have hgR0 : w.heap.size ≤ gR := by omega
  have hg0 : w.heap.size ≤ g := by omega
  clear hW hg hgR hb0 hmm hsz
  have hG : GrpAt W.heap.size s (p.dfs.take 0) W g 0 (fun _ => .slice none 0 0) := ⟨hG0, fun k _ => World.ownsRow_nil _ _ _ _, fun _ _ _ _ _ => .inl rfl⟩
  have p1 := kP.cell 1
  go_wp2_with fail
  have hRW := kR.lt
  have hWb := hb1.size
  clear p1 kP hG0
  go_loopw [16] (fun i wr => ∃ (k n : Nat) (f : Int → Value), k ≤ p.dfs.length ∧ i = .int .i64 k ∧ n ≤ k ∧ GrpAt W.heap.size s (p.dfs.take k) wr g n f ∧ Blk wr gR 70 #[.string ⟨#[]⟩, .int .i64 0, .int .i64 0, .int .i64 0, .int .i64 0, .int .i64 0] ∧ W.heap.size ≤ wr.heap.size ∧ Below w.heap.size w wr) (fun i _ => p.dfs.length - (intOf i).toNat)
  case atStart => exact ⟨0, 0, _, Nat.zero_le _, rfl, Nat.le_refl _, hG, kR, Nat.le_refl _, hb1⟩
  case round =>
    clear hG kR hb1
    obtain ⟨k, n, f, hk, rfl, hn, hG, kR, hWz, hb⟩ := hrel
    by_cases hlt : k < p.dfs.length
    · obtain ⟨d, hd⟩ : ∃ d, p.dfs[k]? = some d := ⟨_, List.getElem?_eq_getElem hlt⟩
      obtain ⟨b, off, hda, bl, c0, c1, c2, c3, c4, c5⟩ := df_get ((h.keep hb hb.size).df) hd
      have hdk := HOK.out d (List.mem_of_getElem? hd)
      have HT : Hid (p.dfs.take (k + 1) = p.dfs.take k ++ [d]) := by show _ = _; rw [List.take_add_one, hd]; rfl
      have hk13 : 1 ≤ d.kind ∧ d.kind ≤ 3 := by rcases hdk.1 with h1 | h1 | h1 <;> omega
      have HK := Lib.hid hk13
      rw [hda]
      clear hd hdk hk13
      go_upto_region 5 with (fail)
      have hs : Below wr.heap.size wr (wr.alloc (.cells #[.string d.name, .int .i64 d.kind, .int .i64 d.frag, .int .i64 d.at_, .int .i64 d.size, .int .i64 d.align] 70)) := by (repeat' (first | exact Below.refl _ _ | assumption | refine Below.setCell ?_ (by first | omega | exact Below.size (by assumption) | (simp; done) | (simp; omega)) _ | refine Below.alloc ?_ (by first | omega | exact Below.size (by assumption) | (simp; done) | (simp; omega)) _ | refine Below.drew ?_ | refine below_drewN ?_ _))
      have HRW : Hid (∀ x, (f d.kind).ownBlock = some x → W.heap.size ≤ x ∧ x < wr.heap.size) := fun x hx => (hG.row d.kind HK.out).lt x hx
      have kD := Blk.new wr 70 #[.string (d).name, .int .i64 (d).kind, .int .i64 (d).frag, .int .i64 (d).at_, .int .i64 (d).size, .int .i64 (d).align]
      have hG2 := hG.all hs
      have kR2 := kR.all hs
      have hb2 := hb.trans (hs.mono hb.size)
      obtain ⟨gd, hgd⟩ : ∃ y, y = wr.heap.size := ⟨_, rfl⟩
      obtain ⟨w2, hw2⟩ : ∃ y, y = wr.alloc (.cells #[.string d.name, .int .i64 d.kind, .int .i64 d.frag, .int .i64 d.at_, .int .i64 d.size, .int .i64 d.align] 70) := ⟨_, rfl⟩
      have hWz2 := Nat.le_trans hWz hs.size
      rw [← hgd] at kD HRW ⊢
      rw [← hw2] at kD hG2 kR2 hb2 hWz2 ⊢
      clear hw2 hgd hs hG kR hb hWz c0 c1 c2 c3 c4 c5 bl
      have d0 := kD.cell 0
      by_cases hnm : d.name = s
      · have e0 := fe_eq hnm
        have HNM := Lib.hid hnm
        clear hnm
        go_upto_region 6 with (fail)
        clear d0 e0
        have hS : Hid (∀ w', Below w2.heap.size w2 w' → (w'.cell? ⟨gd, 0, none⟩ = some (.string d.name) ∧ w'.cell? ⟨gd, 1, none⟩ = some (.int .i64 d.kind) ∧ w'.cell? ⟨gd, 2, none⟩ = some (.int .i64 d.frag) ∧ w'.cell? ⟨gd, 3, none⟩ = some (.int .i64 d.at_) ∧ w'.cell? ⟨gd, 4, none⟩ = some (.int .i64 d.size) ∧ w'.cell? ⟨gd, 5, none⟩ = some (.int .i64 d.align) ∧ (Instr.lookup 131 (.map (some g)) (.int .i64 d.kind) false).run Tryd.prog w' = .ok (f d.kind) w')) :=
          fun w' hx => ⟨(kD.all hx).cell 0, (kD.all hx).cell 1, (kD.all hx).cell 2, (kD.all hx).cell 3, (kD.all hx).cell 4, (kD.all hx).cell 5, (hG2.all hx).grp.look HK.out⟩
        have hbv := (Below.refl w2.heap.size w2).drew
        refine wp_region_late (S := (fun w' => w'.cell? ⟨gd, 0, none⟩ = some (.string d.name) ∧ w'.cell? ⟨gd, 1, none⟩ = some (.int .i64 d.kind) ∧ w'.cell? ⟨gd, 2, none⟩ = some (.int .i64 d.frag) ∧ w'.cell? ⟨gd, 3, none⟩ = some (.int .i64 d.at_) ∧ w'.cell? ⟨gd, 4, none⟩ = some (.int .i64 d.size) ∧ w'.cell? ⟨gd, 5, none⟩ = some (.int .i64 d.align) ∧ (Instr.lookup 131 (.map (some g)) (.int .i64 d.kind) false).run Tryd.prog w' = .ok (f d.kind) w')) [10] (by kernel_rfl) (hS.out _ hbv) (fun hHeld => ?_)
        obtain ⟨wv, hwv⟩ : ∃ x, x = w2.drew := ⟨_, rfl⟩
        rw [← hwv] at hbv hHeld ⊢
        clear hwv
        (refine wpAnyLT_take (i := 0) (oi := { dst := some 24, op := Op.move (Operand.tmp 6), type := 131, pos := "parts.go:386", after := #[], guard := none }) (v := ?_) rfl (by kernel_rfl) (by kernel_rfl) (by kernel_rfl) (fun _ _ _ h => h) (Or.inl ⟨by rfl, ?_⟩) (by assumption) (by kernel_rfl) (by rfl) (by kernel_rfl) ?_; rotate_left; (focus (intro w hSw; (try dsimp only at hSw); go_simp; (try with_reducible rfl))); (try simp only [Act.put, List.setIfInBounds_toArray, List.set_cons_zero, List.set_cons_succ]))
        (refine wpAnyLT_take (i := 1) (oi := { dst := some 25, op := Op.fieldAddr 70 (Operand.tmp 8) 1, type := 0, pos := "parts.go:386", after := #[], guard := none }) (v := ?_) rfl (by kernel_rfl) (by kernel_rfl) (by kernel_rfl) (fun _ _ _ h => h) (Or.inl ⟨by rfl, ?_⟩) (by assumption) (by kernel_rfl) (by rfl) (by kernel_rfl) ?_; rotate_left; (focus (intro w hSw; (try dsimp only at hSw); go_simp; (try with_reducible rfl))); (try simp only [Act.put, List.setIfInBounds_toArray, List.set_cons_zero, List.set_cons_succ]))
        (refine wpAnyLT_take (i := 2) (oi := { dst := some 26, op := Op.load 3 (Operand.tmp 25), type := 3, pos := "parts.go:386", after := #[{ on := 1, ground := Ground.data }], guard := none }) (v := ?_) rfl (by kernel_rfl) (by kernel_rfl) (by kernel_rfl) (fun _ _ _ h => h) (Or.inl ⟨by rfl, ?_⟩) (by assumption) (by kernel_rfl) (by rfl) (by kernel_rfl) ?_; rotate_left; (focus (intro w hSw; (try dsimp only at hSw); go_simp; (try with_reducible rfl))); (try simp only [Act.put, List.setIfInBounds_toArray, List.set_cons_zero, List.set_cons_succ]))
        (refine wpAnyLT_take (i := 3) (oi := { dst := some 27, op := Op.move (Operand.tmp 6), type := 131, pos := "parts.go:386", after := #[], guard := none }) (v := ?_) rfl (by kernel_rfl) (by kernel_rfl) (by kernel_rfl) (fun _ _ _ h => h) (Or.inl ⟨by rfl, ?_⟩) (by assumption) (by kernel_rfl) (by rfl) (by kernel_rfl) ?_; rotate_left; (focus (intro w hSw; (try dsimp only at hSw); go_simp; (try with_reducible rfl))); (try simp only [Act.put, List.setIfInBounds_toArray, List.set_cons_zero, List.set_cons_succ]))
        (refine wpAnyLT_take (i := 4) (oi := { dst := some 28, op := Op.fieldAddr 70 (Operand.tmp 8) 1, type := 0, pos := "parts.go:386", after := #[], guard := none }) (v := ?_) rfl (by kernel_rfl) (by kernel_rfl) (by kernel_rfl) (fun _ _ _ h => h) (Or.inl ⟨by rfl, ?_⟩) (by assumption) (by kernel_rfl) (by rfl) (by kernel_rfl) ?_; rotate_left; (focus (intro w hSw; (try dsimp only at hSw); go_simp; (try with_reducible rfl))); (try simp only [Act.put, List.setIfInBounds_toArray, List.set_cons_zero, List.set_cons_succ]))
        (refine wpAnyLT_take (i := 5) (oi := { dst := some 29, op := Op.load 3 (Operand.tmp 28), type := 3, pos := "parts.go:386", after := #[{ on := 4, ground := Ground.data }], guard := none }) (v := ?_) rfl (by kernel_rfl) (by kernel_rfl) (by kernel_rfl) (fun _ _ _ h => h) (Or.inl ⟨by rfl, ?_⟩) (by assumption) (by kernel_rfl) (by rfl) (by kernel_rfl) ?_; rotate_left; (focus (intro w hSw; (try dsimp only at hSw); go_simp; (try with_reducible rfl))); (try simp only [Act.put, List.setIfInBounds_toArray, List.set_cons_zero, List.set_cons_succ]))
        (refine wpAnyLT_take (i := 6) (oi := { dst := some 30, op := Op.lookup 131 (Operand.tmp 27) (Operand.tmp 29) false, type := 23, pos := "parts.go:386", after := #[{ on := 3, ground := Ground.data }, { on := 5, ground := Ground.data }], guard := none }) (v := ?_) rfl (by kernel_rfl) (by kernel_rfl) (by kernel_rfl) (fun _ _ _ h => h) (Or.inl ⟨by rfl, ?_⟩) (by assumption) (by kernel_rfl) (by rfl) (by kernel_rfl) ?_; rotate_left; (focus (intro w hSw; (try dsimp only at hSw); go_simp; (try with_reducible rfl))); (try simp only [Act.put, List.setIfInBounds_toArray, List.set_cons_zero, List.set_cons_succ]))
        (refine wpAnyLT_take (i := 7) (oi := { dst := some 31, op := Op.load 70 (Operand.tmp 8), type := 70, pos := "parts.go:386", after := #[], guard := none }) (v := ?_) rfl (by kernel_rfl) (by kernel_rfl) (by kernel_rfl) (fun _ _ _ h => h) (Or.inl ⟨by rfl, ?_⟩) (by assumption) (by kernel_rfl) (by rfl) (by kernel_rfl) ?_; rotate_left; (focus (intro w hSw; (try dsimp only at hSw); go_simp; (try with_reducible rfl))); (try simp only [Act.put, List.setIfInBounds_toArray, List.set_cons_zero, List.set_cons_succ]))
        (refine wpAnyL_ready (rs := [8]) (by kernel_rfl) (by simp) ?_; refine List.forall_mem_cons.2 ⟨?_, fun _ h => by cases h⟩)
        (refine stepL (o := { dst := some 32, op := Op.buildSlice 23 1 #[(0, Operand.tmp 31)], type := 23, pos := "parts.go:386", after := #[{ on := 7, ground := Ground.data }], guard := none }) rfl (fun K hK => ?_); go_simp; refine hK.out _ _ (hS.out _ (hbv.alloc hbv.size _)) (fun hHeld => ?_); (clear hK K; (try simp only [Act.put, List.setIfInBounds_toArray, List.set_cons_zero, List.set_cons_succ])))
        have kS := Blk.new wv 70 #[.string (d).name, .int .i64 (d).kind, .int .i64 (d).frag, .int .i64 (d).at_, .int .i64 (d).size, .int .i64 (d).align]
        have hbx := hbv.alloc hbv.size (.cells #[.string (d).name, .int .i64 (d).kind, .int .i64 (d).frag, .int .i64 (d).at_, .int .i64 (d).size, .int .i64 (d).align] 70)
        obtain ⟨gs, hgs⟩ : ∃ y, y = wv.heap.size := ⟨_, rfl⟩
        obtain ⟨wx, hwx⟩ : ∃ y, y = wv.alloc (.cells #[.string (d).name, .int .i64 (d).kind, .int .i64 (d).frag, .int .i64 (d).at_, .int .i64 (d).size, .int .i64 (d).align] 70) := ⟨_, rfl⟩
        rw [← hgs] at kS ⊢
        rw [← hwx] at kS hbx hHeld ⊢
        clear hwx hgs hbv
        have rs : Reads wx wx.heap.size 6 (some ⟨gs, 0, none⟩) 1 d.cells := kS.reads (size := 6) (n := 1) rfl
        have hG3 := hG2.all hbx
        have kR3 := kR2.all hbx
        have hb3 := hb2.trans (hbx.mono hb2.size)
        have oP := hG3.row d.kind HK.out
        have hlk := ofKind_le s d.kind (p.dfs.take k)
        have hlk2 : (ofKind s d.kind (p.dfs.take k)).length ≤ 60 := by rw [List.length_take] at hlk; omega
        (refine wpAnyL_ready (rs := [9]) (by kernel_rfl) (by simp) ?_; refine List.forall_mem_cons.2 ⟨?_, fun _ h => by cases h⟩)
        refine stepL (o := { dst := some 33, op := Op.call { callee := Callee.builtin Builtin.append, args := #[Operand.tmp 30, Operand.tmp 32], argTypes := #[23, 23] }, type := 23, pos := "parts.go:386", after := #[{ on := 6, ground := Ground.data }, { on := 8, ground := Ground.data }], guard := none }) rfl (fun K hK => ?_)
        refine step_append_any _ rfl (.tmp 30) (.tmp 32) 23 rfl W.heap.size 70 i0 (.agg #[.string ⟨#[]⟩, .int .i64 0, .int .i64 0, .int .i64 0, .int .i64 0, .int .i64 0]) 6 56 Tryd.underlying23 hi hz0 hz1 hz2 rfl (by decide) _ _ _ rfl oP _ (some ⟨gs, 0, none⟩) 1 1 d.cells rfl rs (df_one d) ?c2 ?c3 ?c4 ?_
        case c2 => unfold maxLen; omega
        case c3 => omega
        case c4 => exact Nat.le_trans hWz2 hbx.size
        intro v7 w7 ho7 hg7 hor
        have kD7 := (kD.all hbx).grown hg7 (fun e => by have := (HRW.out gd e.symm).2; omega)
        have hG7 := hG3.grp.kept hg7 (hG3.grp.ne_row oP)
        refine hK.out _ _ ⟨kD7.cell 0, kD7.cell 1, kD7.cell 2, kD7.cell 3, kD7.cell 4, kD7.cell 5, hG7.look HK.out⟩ (fun hHeld => ?_)
        (clear hK K; (try simp only [Act.put, List.setIfInBounds_toArray, List.set_cons_zero, List.set_cons_succ]))
        (refine wpAnyL_ready (rs := [10]) (by kernel_rfl) (by simp) ?_; refine List.forall_mem_cons.2 ⟨?_, fun _ h => by cases h⟩)
        refine stepLate (o := { dst := none, op := Op.mapUpdate 131 (Operand.tmp 24) (Operand.tmp 26) (Operand.tmp 33), type := 0, pos := "parts.go:386", after := #[{ on := 0, ground := Ground.data }, { on := 2, ground := Ground.data }, { on := 9, ground := Ground.data }, { on := 9, ground := Ground.chain }, { on := 0, ground := Ground.phase }, { on := 1, ground := Ground.phase }, { on := 2, ground := Ground.phase }, { on := 3, ground := Ground.phase }, { on := 4, ground := Ground.phase }, { on := 5, ground := Ground.phase }, { on := 6, ground := Ground.phase }, { on := 7, ground := Ground.phase }, { on := 8, ground := Ground.phase }, { on := 9, ground := Ground.phase }], guard := none }) rfl (by rfl) (fun K hK => ?_)
        refine step_grpPut rfl (.tmp 24) (.tmp 26) (.tmp 33) rfl g n f hG7 rfl (by omega) d.kind HK.out rfl v7 rfl (sl_own ho7) ?_
        intro w8 hm8 hg8
        refine hK.out _ _ ?_
        (clear hK K; (try simp only [Act.put, List.setIfInBounds_toArray, List.set_cons_zero, List.set_cons_succ]))
        have hG8 := hG3.push HNM.out HK.out ho7 hg7 hor hm8 hg8 (hG7.ne_row ho7)
        have kR7 := kR3.grown hg7 (fun e => by have := (HRW.out gR e.symm).1; omega)
        have kR8 := kR7.grown hg8 (hG7.ne_blk kR7)
        have hWz8 := Nat.le_trans (Nat.le_trans hWz2 hbx.size) (Nat.le_trans hg7.size hg8.size)
        have hb8 := (hb3.grown hg7 hb3.size (fun j hj => Nat.le_trans hWb (HRW.out j hj).1)).grown hg8 (Nat.le_trans hb3.size hg7.size) (fun j hj => by cases hj; exact hg0)
        rw [← HT.out] at hG8
        clear hHeld hS oP hg7 ho7 hG7 hm8 hg8 hG3 kR3 kR7 hb3 rs kS hbx hG2 kR2 hb2 kD kD7 hor hlk HRW hWz2
        refine wpAnyL_done (by kernel_rfl) ?_ _
        go_wp2
        go_roundw
        case rel => exact ⟨k + 1, n + 1, _, by omega, by go_num, by omega, hG8, kR8, hWz8, hb8⟩
        case measure => simp [intOf]; omega
      · have e0 := fe_ne hnm
        have hG3 := hG2.skip hnm
        rw [← HT.out] at hG3
        clear hnm
        go_wp2
        go_roundw
        case rel => exact ⟨k + 1, n, f, by omega, by go_num, by omega, hG3, kR2, hWz2, hb2⟩
        case measure => simp [intOf]; omega
    · obtain rfl : k = p.dfs.length := by omega
      rw [List.take_length] at hG
      have lk1 := hG.grp.look (k := 1) ⟨by omega, by omega⟩
      have lk2 := hG.grp.look (k := 2) ⟨by omega, by omega⟩
      have lk3 := hG.grp.look (k := 3) ⟨by omega, by omega⟩
      have o1 := hG.row 1 ⟨by omega, by omega⟩
      have o2 := hG.row 2 ⟨by omega, by omega⟩
      have o3 := hG.row 3 ⟨by omega, by omega⟩
      have m1 := ofKind_le s 1 p.dfs
      have m2 := ofKind_le s 2 p.dfs
      have m3 := ofKind_le s 3 p.dfs
      obtain ⟨l1, hl1⟩ : ∃ l, ofKind s 1 p.dfs = l := ⟨_, rfl⟩
      obtain ⟨l2, hl2⟩ : ∃ l, ofKind s 2 p.dfs = l := ⟨_, rfl⟩
      obtain ⟨l3, hl3⟩ : ∃ l, ofKind s 3 p.dfs = l := ⟨_, rfl⟩
      rw [hl1] at o1 m1
      rw [hl2] at o2 m2
      rw [hl3] at o3 m3
      have HM : Hid (∀ d ∈ l3, d.name = s ∧ d.kind = 3) := fun d hd => mem_kind (l := p.dfs) (by rw [hl3]; exact hd)
      have HFL : Hid (findL p.dfs s = foundR l1 l2 l3 s) := by
        show _ = _
        rw [← HF.out, found_r, hl1, hl2, hl3]
      obtain ⟨v1, hv1⟩ : ∃ v, f 1 = v := ⟨_, rfl⟩
      obtain ⟨v2, hv2⟩ : ∃ v, f 2 = v := ⟨_, rfl⟩
      obtain ⟨v3, hv3⟩ : ∃ v, f 3 = v := ⟨_, rfl⟩
      rw [hv1] at lk1 o1
      rw [hv2] at lk2 o2
      rw [hv3] at lk3 o3
      obtain ⟨n1, hn1⟩ : ∃ n, l1.length = n := ⟨_, rfl⟩
      obtain ⟨n2, hn2⟩ : ∃ n, l2.length = n := ⟨_, rfl⟩
      obtain ⟨n3, hn3⟩ : ∃ n, l3.length = n := ⟨_, rfl⟩
      rw [hn1] at o1 m1
      rw [hn2] at o2 m2
      rw [hn3] at o3 m3
      have HN1 := Lib.hid hn1
      have HN2 := Lib.hid hn2
      have HN3 := Lib.hid hn3
      obtain ⟨A1, c1, rfl, _, _⟩ := own_form o1
      obtain ⟨A2, c2, rfl, _, _⟩ := own_form o2
      obtain ⟨A3, c3, rfl, _, _⟩ := own_form o3
      have R1 := Reads.of_own o1
      have R2 := Reads.of_own o2
      have R3 := Reads.of_own o3
      have m1' : n1 ≤ 60 := by omega
      have m2' : n2 ≤ 60 := by omega
      have m3' : n3 ≤ 60 := by omega
      have hG0 := Lib.hid hG
      replace hG0 := hG0.out
      have HV3 := Lib.hid hv3
      clear hl1 hl2 hl3 hv1 hv2 hv3 HF HOK hn1 hn2 hn3 m1 m2 m3 o1 o2 o3 hG
      by_cases t1 : 1 < n1
      · have q1 : decide ((1 : Int) < (n1 : Int)) = true := decide_eq_true (by omega)
        have HR : Hid (findL p.dfs s = (.zero, 6)) := by show _ = _; rw [HFL.out, foundR_two (by rw [HN1.out]; exact t1)]
        (have kRf := set6 kR (.string ⟨#[]⟩) (.int .i64 0) (.int .i64 0) (.int .i64 0) (.int .i64 0) (.int .i64 0); have hbf := below6 hb hgR0 (.string ⟨#[]⟩) (.int .i64 0) (.int .i64 0) (.int .i64 0) (.int .i64 0) (.int .i64 0); have y0 := kR.cell 0; have y1 := kR.cell 1; have y2 := kR.cell 2; have y3 := kR.cell 3; have y4 := kR.cell 4; have y5 := kR.cell 5; have u0 := kR.frozen 0; have u1 := kR.frozen 1; have u2 := kR.frozen 2; have u3 := kR.frozen 3; have u4 := kR.frozen 4; have u5 := kR.frozen 5; have r0 := kRf.cell 0; have r1 := kRf.cell 1; have r2 := kRf.cell 2; have r3 := kRf.cell 3; have r4 := kRf.cell 4; have r5 := kRf.cell 5; clear kRf)
        clear t1 HFL R1 R2 R3 kR
        (go_wp2; refine bodyPost_ret (v := .tuple #[.agg #[.string ⟨#[]⟩, .int .i64 0, .int .i64 0, .int .i64 0, .int .i64 0, .int .i64 0], .int .i64 6]) (by simp [results, Tryd.results38, go_sem, r0, r1, r2, r3, r4, r5]) rfl ⟨by rw [HR.out] <;> rfl, hbf⟩)
      · by_cases t2 : n1 = 1
        · subst t2
          obtain ⟨a, rfl⟩ : ∃ a, l1 = [a] := List.length_eq_one_iff.1 HN1.out
          have HR : Hid (findL p.dfs s = (a, 0)) := by show _ = _; rw [HFL.out, foundR_one]
          obtain ⟨b2, of2, e2, bl2, x0, x1, x2, x3, x4, x5⟩ := df_get (l := [a]) R1 (show [a][0]? = some a from rfl)
          subst e2
          simp only [Nat.zero_mul, Nat.add_zero] at x0 x1 x2 x3 x4 x5
          (have kRf := set6 kR (.string a.name) (.int .i64 a.kind) (.int .i64 a.frag) (.int .i64 a.at_) (.int .i64 a.size) (.int .i64 a.align); have hbf := below6 hb hgR0 (.string a.name) (.int .i64 a.kind) (.int .i64 a.frag) (.int .i64 a.at_) (.int .i64 a.size) (.int .i64 a.align); have y0 := kR.cell 0; have y1 := kR.cell 1; have y2 := kR.cell 2; have y3 := kR.cell 3; have y4 := kR.cell 4; have y5 := kR.cell 5; have u0 := kR.frozen 0; have u1 := kR.frozen 1; have u2 := kR.frozen 2; have u3 := kR.frozen 3; have u4 := kR.frozen 4; have u5 := kR.frozen 5; have r0 := kRf.cell 0; have r1 := kRf.cell 1; have r2 := kRf.cell 2; have r3 := kRf.cell 3; have r4 := kRf.cell 4; have r5 := kRf.cell 5; clear kRf)
          clear t1 HFL R1 R2 R3 kR HN1
          (go_wp2; refine bodyPost_ret (v := .tuple #[.agg #[.string (a).name, .int .i64 (a).kind, .int .i64 (a).frag, .int .i64 (a).at_, .int .i64 (a).size, .int .i64 (a).align], .int .i64 0]) (by simp [results, Tryd.results38, go_sem, r0, r1, r2, r3, r4, r5]) rfl ⟨by rw [HR.out] <;> rfl, hbf⟩)
        · obtain rfl : n1 = 0 := by omega
          obtain rfl : l1 = [] := List.length_eq_zero_iff.1 HN1.out
          clear t1 t2 R1
          by_cases t3 : 0 < n3
          · have q3 : decide ((0 : Int) < (n3 : Int)) = true := decide_eq_true (by omega)
            have q3n : decide (0 < n3) = true := decide_eq_true t3
            have HR : Hid (findL p.dfs s = (⟨s, 3, 0, 0, sizeM l3, alignM l3⟩, 0)) := by show _ = _; rw [HFL.out, foundR_com (by rw [HN3.out]; exact t3)]
            clear HFL R2 lk2 m2'
            go_upto_region 14 with (fail)
            have hs : Below wr.heap.size wr (wr.alloc (.cells #[.string s, .int .i64 3, .int .i64 0, .int .i64 0, .int .i64 0, .int .i64 0] 70)) := by (repeat' (first | exact Below.refl _ _ | assumption | refine Below.setCell ?_ (by first | omega | exact Below.size (by assumption) | (simp; done) | (simp; omega)) _ | refine Below.alloc ?_ (by first | omega | exact Below.size (by assumption) | (simp; done) | (simp; omega)) _ | refine Below.drew ?_ | refine below_drewN ?_ _))
            have kC := Blk.new wr 70 #[.string s, .int .i64 3, .int .i64 0, .int .i64 0, .int .i64 0, .int .i64 0]
            have kR2 := kR.all hs
            have lk32 := (hG0.grp.all hs).look (k := 3) ⟨by omega, by omega⟩
            rw [HV3.out] at lk32
            obtain ⟨W3, hW3⟩ : ∃ y, y = wr := ⟨_, rfl⟩
            have hgC0 : W3.heap.size ≤ wr.heap.size := by rw [hW3]; exact Nat.le_refl _
            have hRC0 : gR < W3.heap.size := by rw [hW3]; exact kR.lt
            have hB3 : Below w.heap.size w W3 := by rw [hW3]; exact hb
            have R33 : Reads W3 W3.heap.size 6 A3 l3.length (dfsV l3) := by rw [hW3, HN3.out]; exact R3
            rw [← hW3] at hs
            obtain ⟨gC, hgC⟩ : ∃ y, y = wr.heap.size := ⟨_, rfl⟩
            obtain ⟨w2, hw2⟩ : ∃ y, y = wr.alloc (.cells #[.string s, .int .i64 3, .int .i64 0, .int .i64 0, .int .i64 0, .int .i64 0] 70) := ⟨_, rfl⟩
            rw [← hgC] at kC hgC0 ⊢
            rw [hW3, ← hw2] at hs
            rw [← hW3] at hs
            rw [← hw2] at kC kR2 lk32 ⊢
            clear hw2 hgC kR hb R3 lk1 lk3 q3 q3n hG0 HV3 hW3
            go_wp2_with fail
            clear lk32
            have HRR := Lib.hid HR.out
            go_loopw [60] (fun i wz => ∃ j : Nat, j ≤ n3 ∧ i = .int .i64 j ∧ Blk wz gC 70 #[.string s, .int .i64 3, .int .i64 0, .int .i64 0, .int .i64 (sizeM (l3.take j)), .int .i64 (alignM (l3.take j))] ∧ Blk wz gR 70 #[.string ⟨#[]⟩, .int .i64 0, .int .i64 0, .int .i64 0, .int .i64 0, .int .i64 0] ∧ Below W3.heap.size W3 wz) (fun i _ => n3 - (intOf i).toNat)
            case atStart => exact ⟨0, Nat.zero_le _, rfl, kC, kR2, hs⟩
            case round =>
              clear kC kR2 hs
              obtain ⟨j, hj, rfl, kC, kR, hbW⟩ := hrel
              by_cases hlj : j < n3
              · obtain ⟨d, hd⟩ : ∃ d, l3[j]? = some d := ⟨_, List.getElem?_eq_getElem (by rw [HN3.out]; exact hlj)⟩
                obtain ⟨b, off, hda, bl, c0, c1, c2, c3', c4, c5⟩ := df_get ((R33.below hbW).more hbW.size) hd
                have HS1 : Hid (sizeM (l3.take (j + 1)) = max (sizeM (l3.take j)) d.size) := by show _ = _; rw [List.take_add_one, hd]; exact sizeM_snoc _ _
                have HS2 : Hid (alignM (l3.take (j + 1)) = max (alignM (l3.take j)) d.align) := by show _ = _; rw [List.take_add_one, hd]; exact alignM_snoc _ _
                subst hda
                have i1 : (j : Int) < (n3 : Int) := by omega
                clear hd
                go_upto_region 17 with (fail)
                have kC2 := kC.alloc (.cells #[.string d.name, .int .i64 d.kind, .int .i64 d.frag, .int .i64 d.at_, .int .i64 d.size, .int .i64 d.align] 70)
                have kR2 := kR.alloc (.cells #[.string d.name, .int .i64 d.kind, .int .i64 d.frag, .int .i64 d.at_, .int .i64 d.size, .int .i64 d.align] 70)
                have kD := Blk.new wr 70 #[.string (d).name, .int .i64 (d).kind, .int .i64 (d).frag, .int .i64 (d).at_, .int .i64 (d).size, .int .i64 (d).align]
                have hb2 := hbW.alloc hbW.size (.cells #[.string d.name, .int .i64 d.kind, .int .i64 d.frag, .int .i64 d.at_, .int .i64 d.size, .int .i64 d.align] 70)
                obtain ⟨gd, hgd⟩ : ∃ y, y = wr.heap.size := ⟨_, rfl⟩
                have hCd : gC ≠ gd := by have := kC.lt; omega
                have hRC : gR ≠ gC := by omega
                obtain ⟨w4, hw4⟩ : ∃ y, y = wr.alloc (.cells #[.string d.name, .int .i64 d.kind, .int .i64 d.frag, .int .i64 d.at_, .int .i64 d.size, .int .i64 d.align] 70) := ⟨_, rfl⟩
                rw [← hgd] at kD ⊢
                rw [← hw4] at kC2 kR2 kD hb2 ⊢
                clear hw4 hgd kC kR hbW c0 c1 c2 c3' c4 c5 bl
                obtain ⟨sz, hsz⟩ : ∃ n, sizeM (l3.take j) = n := ⟨_, rfl⟩
                obtain ⟨al, hal⟩ : ∃ n, alignM (l3.take j) = n := ⟨_, rfl⟩
                rw [hsz] at kC2 HS1
                rw [hal] at kC2 HS2
                clear hsz hal
                have f4 := kD.cell 4
                have f5 := kD.cell 5
                have b4 := kC2.cell 4
                have b5 := kC2.cell 5
                have x4 := kC2.frozen 4
                have x5 := kC2.frozen 5
                go_region
                go_wp2
                go_roundw
                case rel =>
                  refine ⟨j + 1, by omega, by go_num, ?_, ?_, ?_⟩
                  · rw [HS1.out, HS2.out]
                    exact ((kC2.set_ 4 _).set_ 5 _).drew
                  · exact ((kR2.far (p := ⟨gC, 4, none⟩) hRC _).far (p := ⟨gC, 5, none⟩) hRC _).drew
                  · exact ((hb2.setCell (p := ⟨gC, 4, none⟩) hgC0 _).setCell (p := ⟨gC, 5, none⟩) hgC0 _).drew
                case measure => simp [intOf]; omega
              · obtain rfl : j = n3 := by omega
                have HT : Hid (l3.take j = l3) := by show _ = _; rw [← HN3.out, List.take_length]
                rw [HT.out] at kC
                have hb := hB3.trans (hbW.mono hB3.size)
                obtain ⟨sz, hsz⟩ : ∃ n, sizeM l3 = n := ⟨_, rfl⟩
                obtain ⟨al, hal⟩ : ∃ n, alignM l3 = n := ⟨_, rfl⟩
                have HR : Hid (findL p.dfs s = (⟨s, 3, 0, 0, sz, al⟩, 0)) := by show _ = _; rw [HRR.out, hsz, hal]
                rw [hsz, hal] at kC
                clear hsz hal hbW HRR
                have x0 := kC.cell 0
                have x1 := kC.cell 1
                have x2 := kC.cell 2
                have x3 := kC.cell 3
                have x4 := kC.cell 4
                have x5 := kC.cell 5
                (have kRf := set6 kR (.string s) (.int .i64 3) (.int .i64 0) (.int .i64 0) (.int .i64 sz) (.int .i64 al); have hbf := below6 hb hgR0 (.string s) (.int .i64 3) (.int .i64 0) (.int .i64 0) (.int .i64 sz) (.int .i64 al); have y0 := kR.cell 0; have y1 := kR.cell 1; have y2 := kR.cell 2; have y3 := kR.cell 3; have y4 := kR.cell 4; have y5 := kR.cell 5; have u0 := kR.frozen 0; have u1 := kR.frozen 1; have u2 := kR.frozen 2; have u3 := kR.frozen 3; have u4 := kR.frozen 4; have u5 := kR.frozen 5; have r0 := kRf.cell 0; have r1 := kRf.cell 1; have r2 := kRf.cell 2; have r3 := kRf.cell 3; have r4 := kRf.cell 4; have r5 := kRf.cell 5; clear kRf)
                clear kC kR
                (go_wp2; refine bodyPost_ret (v := .tuple #[.agg #[.string s, .int .i64 3, .int .i64 0, .int .i64 0, .int .i64 sz, .int .i64 al], .int .i64 0]) (by simp [results, Tryd.results38, go_sem, r0, r1, r2, r3, r4, r5]) rfl ⟨by rw [HR.out] <;> rfl, hbf⟩)
          · obtain rfl : n3 = 0 := by omega
            by_cases t4 : 0 < n2
            · have q4 : decide ((0 : Int) < (n2 : Int)) = true := decide_eq_true (by omega)
              have q4n : decide (0 < n2) = true := decide_eq_true t4
              obtain ⟨a, ha⟩ : ∃ a, l2[0]? = some a := ⟨_, List.getElem?_eq_getElem (by rw [HN2.out]; exact t4)⟩
              have HR : Hid (findL p.dfs s = (a, 0)) := by show _ = _; rw [HFL.out, foundR_weak (by rw [HN3.out]; omega) ha]
              obtain ⟨b2, of2, e2, bl2, x0, x1, x2, x3, x4, x5⟩ := df_get (by rw [HN2.out]; exact R2) ha
              subst e2
              simp only [Nat.zero_mul, Nat.add_zero] at x0 x1 x2 x3 x4 x5
              (have kRf := set6 kR (.string a.name) (.int .i64 a.kind) (.int .i64 a.frag) (.int .i64 a.at_) (.int .i64 a.size) (.int .i64 a.align); have hbf := below6 hb hgR0 (.string a.name) (.int .i64 a.kind) (.int .i64 a.frag) (.int .i64 a.at_) (.int .i64 a.size) (.int .i64 a.align); have y0 := kR.cell 0; have y1 := kR.cell 1; have y2 := kR.cell 2; have y3 := kR.cell 3; have y4 := kR.cell 4; have y5 := kR.cell 5; have u0 := kR.frozen 0; have u1 := kR.frozen 1; have u2 := kR.frozen 2; have u3 := kR.frozen 3; have u4 := kR.frozen 4; have u5 := kR.frozen 5; have r0 := kRf.cell 0; have r1 := kRf.cell 1; have r2 := kRf.cell 2; have r3 := kRf.cell 3; have r4 := kRf.cell 4; have r5 := kRf.cell 5; clear kRf)
              clear t3 HFL R2 R3 kR ha
              (go_wp2; refine bodyPost_ret (v := .tuple #[.agg #[.string (a).name, .int .i64 (a).kind, .int .i64 (a).frag, .int .i64 (a).at_, .int .i64 (a).size, .int .i64 (a).align], .int .i64 0]) (by simp [results, Tryd.results38, go_sem, r0, r1, r2, r3, r4, r5]) rfl ⟨by rw [HR.out] <;> rfl, hbf⟩)
            · obtain rfl : n2 = 0 := by omega
              obtain rfl : l2 = [] := List.length_eq_zero_iff.1 HN2.out
              have HR : Hid (findL p.dfs s = (.zero, 7)) := by show _ = _; rw [HFL.out, foundR_none (by rw [HN3.out]; omega)]
              (have kRf := set6 kR (.string ⟨#[]⟩) (.int .i64 0) (.int .i64 0) (.int .i64 0) (.int .i64 0) (.int .i64 0); have hbf := below6 hb hgR0 (.string ⟨#[]⟩) (.int .i64 0) (.int .i64 0) (.int .i64 0) (.int .i64 0) (.int .i64 0); have y0 := kR.cell 0; have y1 := kR.cell 1; have y2 := kR.cell 2; have y3 := kR.cell 3; have y4 := kR.cell 4; have y5 := kR.cell 5; have u0 := kR.frozen 0; have u1 := kR.frozen 1; have u2 := kR.frozen 2; have u3 := kR.frozen 3; have u4 := kR.frozen 4; have u5 := kR.frozen 5; have r0 := kRf.cell 0; have r1 := kRf.cell 1; have r2 := kRf.cell 2; have r3 := kRf.cell 3; have r4 := kRf.cell 4; have r5 := kRf.cell 5; clear kRf)
              clear t3 t4 HFL R2 R3 kR
              (go_wp2; refine bodyPost_ret (v := .tuple #[.agg #[.string ⟨#[]⟩, .int .i64 0, .int .i64 0, .int .i64 0, .int .i64 0, .int .i64 0], .int .i64 7]) (by simp [results, Tryd.results38, go_sem, r0, r1, r2, r3, r4, r5]) rfl ⟨by rw [HR.out] <;> rfl, hbf⟩)
end Go.Proofs.YtmlomnhjbmocfaaDoor
