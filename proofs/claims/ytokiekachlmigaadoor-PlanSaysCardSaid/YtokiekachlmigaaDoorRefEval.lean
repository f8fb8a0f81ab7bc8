/- ropewalkref.Evaluated of right parts and a right plan: what it computes. -/
import Derived.Test.YtokiekachlmigaaDoorRefJoin
import Derived.Test.YtokiekachlmigaaDoorEvalX
import Derived.Test.YtokiekachlmigaaDoorPlB
import Derived.Test.YtokiekachlmigaaDoorHdB
set_option linter.all false
namespace Go.Proofs.YtokiekachlmigaaDoor
open Go.RowKit

/-- Parts gathered: of the call's own, or the caller's. -/
structure EW (w wr : World) (z : Value) (qs : List PtM) : Prop where
  hz : wr.ownsRow w.heap.size 25 2 z qs.length (ptsV qs)
  each : ∀ q ∈ qs, q.er.Ok ∧ (q.At w w.heap.size ∨ q.Own wr w.heap.size)
  hB : Below w.heap.size w wr
theorem EW.at_ {w wr : World} {z : Value} {qs : List PtM} (h : EW w wr z qs) {q : PtM} (hq : q ∈ qs) : q.At wr wr.heap.size :=
  (h.each q hq).2.elim (fun a => a.keep h.hB h.hB.size) (fun o => o.at_)
theorem EW.all {w wr w' : World} {z : Value} {qs : List PtM} (h : EW w wr z qs) (hs : Below wr.heap.size wr w') : EW w w' z qs :=
  ⟨own_all h.hz hs, fun q hq => ⟨(h.each q hq).1, (h.each q hq).2.imp_right fun o => o.all hs⟩, h.hB.trans (hs.mono h.hB.size)⟩
theorem EW.push {w wr : World} {z : Value} {qs : List PtM} (h : EW w wr z qs) {q : PtM} (hk : q.er.Ok) (hq : q.At w w.heap.size ∨ q.Own wr w.heap.size) {w5 : World} {v' : Value} (ho : w5.ownsRow w.heap.size 25 2 v' (qs.length + 1) (ptsV qs ++ q.cells)) (hg : wr.grownBy w5 z.ownBlock) : EW w w5 v' (qs ++ [q]) := by
  refine ⟨?_, fun p hp => ?_, h.hB.grown hg h.hB.size (fun g hg' => (h.hz.lt g hg').1)⟩
  · rw [ptsV_append, List.length_append]
    simpa [ptsV] using ho
  · rcases List.mem_append.1 hp with hp | hp
    · exact ⟨(h.each p hp).1, (h.each p hp).2.imp_right fun o => o.row h.hz hg (by decide) (by decide) (by decide) (by decide)⟩
    · obtain rfl := List.mem_singleton.1 hp
      exact ⟨hk, hq.imp_right fun o => o.row h.hz hg (by decide) (by decide) (by decide) (by decide)⟩
theorem joinP_right {a b q : Prt} (h : joinP a b = (q, 0)) : q.Ok := by
  obtain ⟨ha, hb, hf, he⟩ := joinP_zero (a := a) (b := b) (by rw [h])
  rw [h] at he
  injection he with he
  rw [he]
  exact ok_join ha hb hf
def RefEvalIs (w : World) (r : List Prt × Int) (e : Ending) (w' : World) : Prop :=
  ∃ (z : Value) (qs : List PtM), e = .returned (.tuple #[z, .int .i64 r.2]) ∧ (r.2 ≠ 0 → z = .slice none 0 0) ∧ (r.2 = 0 → EW w w' z qs ∧ qs.map PtM.er = r.1) ∧ Below w.heap.size w w'

set_option maxRecDepth 100000 in
set_option maxHeartbeats 20000000 in
theorem refEval_any (A A' : Option Addr) (c c' : Nat) (l : List Nd) (ps : List PtM) (w : World) (h : Reads w w.heap.size 3 A l.length (ndCells l)) (hp : PtsAt w w.heap.size A' ps) (hpm : ps.length ≤ 9223372036854775807)
    (hc : ckPlan l ps.length = 0) (hok : ∀ p ∈ ps, p.er.Ok) :
    Calls Tryd.prog 49 #[.slice A l.length c, .slice A' ps.length c'] w (RefEvalIs w (evalUp (ps.map PtM.er) [] l)) := by
  have HE := Lib.hid hp.each
  have hrow := hp.row
  have hz := ckPlan_zero hc
  have h23 : l.length ≤ 23 := hz.2.2.1
  have h12 : ps.length ≤ 12 := by have := hz.2.1; omega
  have HF := Lib.hid hz.2.2.2.2.1
  have HOK := Lib.hid hok
  clear hc hz hok hp
  go_enter Tryd.func49, Tryd.ntmps49
  go_wp2_with fail
  have hEV : EW w w (.slice none 0 0) [] := ⟨World.ownsRow_nil _ _ _ _, fun q hq => absurd hq (by simp), Below.refl _ _⟩
  go_loopw [6, 13] (fun z i wr => ∃ (k : Nat) (qs : List PtM), k ≤ l.length ∧ i = .int .i64 k ∧ Hid (qs.length = k) ∧ Hid (evalUp (ps.map PtM.er) [] l = evalUp (ps.map PtM.er) (qs.map PtM.er) (l.drop k)) ∧ EW w wr z qs) (fun _ i _ => l.length - (intOf i).toNat)
  case atStart => exact ⟨0, [], Nat.zero_le _, rfl, Lib.hid rfl, Lib.hid rfl, hEV⟩
  case round =>
    clear hEV
    obtain ⟨k, qs, hk, rfl, hql, hev, hEV⟩ := hrel
    obtain ⟨Az, cz, rfl, hz1, hz2⟩ := own_form hEV.hz
    have hq23 : qs.length ≤ 23 := by rw [hql.out]; omega
    by_cases hlt : k < l.length
    · obtain ⟨x, hx⟩ : ∃ x, l[k]? = some x := ⟨_, List.getElem?_eq_getElem hlt⟩
      obtain ⟨b, off, rfl, bl, c0, c1, c2⟩ := nd_cells (h.below hEV.hB) hx
      have hgood := HF.out k x hx
      have hdr : Hid (l.drop k = x :: l.drop (k + 1)) := by
        obtain ⟨hk', hv⟩ := List.getElem?_eq_some_iff.1 hx
        show _ = _
        rw [List.drop_eq_getElem_cons hk', hv]
      clear hx
      go_upto_region 5 with (fail)
      have hs : Below wr.heap.size wr (wr.alloc (.cells #[.int .i64 x.leaf, .int .i64 x.left, .int .i64 x.right] 80)) := by (repeat' (first | exact Below.refl _ _ | assumption | refine Below.setCell ?_ (by first | omega | exact Below.size (by assumption) | (simp; done) | (simp; omega)) _ | refine Below.alloc ?_ (by first | omega | exact Below.size (by assumption) | (simp; done) | (simp; omega)) _ | refine Below.drew ?_ | refine below_drewN ?_ _))
      have kN := Blk.new wr 80 #[.int .i64 x.leaf, .int .i64 x.left, .int .i64 x.right]
      replace hEV := hEV.all hs
      obtain ⟨gN, hgN⟩ : ∃ g, g = wr.heap.size := ⟨_, rfl⟩
      obtain ⟨W, hW⟩ : ∃ W', W' = wr.alloc (.cells #[.int .i64 x.leaf, .int .i64 x.left, .int .i64 x.right] 80) := ⟨_, rfl⟩
      rw [← hgN] at kN ⊢
      rw [← hW] at kN hEV ⊢
      clear hW hgN hs c0 c1 c2 bl
      have n0 := kN.cell 0
      have n1 := kN.cell 1
      have n2 := kN.cell 2
      unfold Nd.bad at hgood
      by_cases hl0 : 0 ≤ x.leaf
      · rw [if_pos hl0] at hgood
        obtain ⟨n, hn⟩ : ∃ n : Nat, x.leaf = n := ⟨x.leaf.toNat, by omega⟩
        have hnl : n < ps.length := by omega
        obtain ⟨p, hpn⟩ : ∃ p, ps[n]? = some p := ⟨_, List.getElem?_eq_getElem hnl⟩
        obtain ⟨b', off', rfl, bl', d0, d1⟩ := pt_get (hrow.below hEV.hB) hpn
        have hpA := HE.out p (List.mem_of_getElem? hpn)
        have hpO := HOK.out p (List.mem_of_getElem? hpn)
        have hstep : Hid (evalUp (ps.map PtM.er) (qs.map PtM.er) (l.drop k) = evalUp (ps.map PtM.er) (qs.map PtM.er ++ [p.er]) (l.drop (k + 1))) := by
          show _ = _
          rw [hdr.out, evalUp_leaf hl0, hn, Int.toNat_natCast, List.getD_eq_getElem?_getD, List.getElem?_map, hpn]; rfl
        have t0 : decide ((0 : Int) ≤ (n : Int)) = true := by simp
        rw [hn] at n0
        clear hl0 hgood hpn
        replace hn := Lib.hid hn
        replace hpO := Lib.hid hpO
        replace hpA := Lib.hid hpA
        have hnlI : (n : Int) < (ps.length : Int) := by omega
        have hWs := hEV.hB.size
        obtain ⟨i0, hi, hiz, his, hib⟩ := info_parts Tryd.infoParts
        go_wp2_with (at_builtin
                     refine wpList_append_own _ rfl (.tmp 20) (.tmp 26) 58 rfl w.heap.size 25 i0 _ 2 48 Tryd.underlying58 hi hiz his hib rfl (by decide) _ _ _ rfl (hEV.hz.alloc _) ⟨W.heap.size, 0, none⟩ 1 1 [.slice p.fa p.frs.length p.fc, .slice p.da p.dfs.length p.dc] rfl rfl ?c1 ?c2 ?c3 ?c4 ?c5 ?_
                     case c1 => exact fun j u hu => cells_new j u hu
                     case c2 => exact pt_one p
                     case c3 => unfold maxLen; omega
                     case c4 => omega
                     case c5 => simp; omega
                     intro v' w5 hown5 hg5 _
                     have hst : Below W.heap.size W (W.alloc (.cells #[.slice p.fa p.frs.length p.fc, .slice p.da p.dfs.length p.dc] 25)) := by (repeat' (first | exact Below.refl _ _ | assumption | refine Below.setCell ?_ (by first | omega | exact Below.size (by assumption) | (simp; done) | (simp; omega)) _ | refine Below.alloc ?_ (by first | omega | exact Below.size (by assumption) | (simp; done) | (simp; omega)) _ | refine Below.drew ?_ | refine below_drewN ?_ _))
                     have hE5 := (hEV.all hst).push (q := p) hpO.out (.inl hpA.out) hown5 hg5
                     clear hst hg5 hown5)
        go_roundw
        case rel => exact ⟨k + 1, qs ++ [p], by omega, by go_num, Lib.hid (by rw [List.length_append, hql.out]; rfl), Lib.hid (by rw [hev.out, hstep.out, List.map_append]; rfl), hE5⟩
        case measure => simp [intOf]; omega
      · rw [if_neg hl0] at hgood
        obtain ⟨na, hna⟩ : ∃ n : Nat, x.left = n := ⟨x.left.toNat, by omega⟩
        obtain ⟨nb, hnb⟩ : ∃ n : Nat, x.right = n := ⟨x.right.toNat, by omega⟩
        have la : na < qs.length := by rw [hql.out]; omega
        have lb : nb < qs.length := by rw [hql.out]; omega
        have la2 : (na : Int) < (qs.length : Int) := by omega
        have lb2 : (nb : Int) < (qs.length : Int) := by omega
        obtain ⟨p1, hp1⟩ : ∃ p, qs[na]? = some p := ⟨_, List.getElem?_eq_getElem la⟩
        obtain ⟨p2, hp2⟩ : ∃ p, qs[nb]? = some p := ⟨_, List.getElem?_eq_getElem lb⟩
        have a1 := hEV.at_ (List.mem_of_getElem? hp1)
        have a2 := hEV.at_ (List.mem_of_getElem? hp2)
        have k1 := Lib.hid (hEV.each p1 (List.mem_of_getElem? hp1)).1
        have k2 := Lib.hid (hEV.each p2 (List.mem_of_getElem? hp2)).1
        have R := Reads.of_own hEV.hz
        obtain ⟨b0, o0, rfl, bl0, ca0, ca1⟩ := pt_get R hp1
        obtain ⟨b1, o1, he1, bl1, cb0, cb1⟩ := pt_get R hp2
        obtain ⟨rfl, rfl⟩ : b1 = b0 ∧ o1 = o0 := by
          injection he1 with he1
          injection he1 with h1 h2
          exact ⟨h1.symm, h2.symm⟩
        have g1 : Hid ((qs.map PtM.er).getD x.left.toNat .nil = p1.er) := by
          show _ = _
          rw [hna, Int.toNat_natCast, List.getD_eq_getElem?_getD, List.getElem?_map, hp1]; rfl
        have g2 : Hid ((qs.map PtM.er).getD x.right.toNat .nil = p2.er) := by
          show _ = _
          rw [hnb, Int.toNat_natCast, List.getD_eq_getElem?_getD, List.getElem?_map, hp2]; rfl
        have HL0 := Lib.hid hl0
        have t0 : decide ((0 : Int) ≤ x.leaf) = false := decide_eq_false hl0
        rw [hna] at n1 kN
        rw [hnb] at n2 kN
        clear hp1 hp2 hl0 hgood R he1
        replace hna := Lib.hid hna
        replace hnb := Lib.hid hnb
        go_upto_region 7 with (fail)
        go_cut [9, 10] (fun bx en wx => ∃ (q : PtM) (n : Int) (gq : Nat), bx = .pointer (some ⟨gq, 0, none⟩) ∧ en = .int .i64 n ∧ Hid (joinP p1.er p2.er = (q.er, n)) ∧ Blk wx gq 25 #[.slice q.fa q.frs.length q.fc, .slice q.da q.dfs.length q.dc] ∧ q.Own wx W.heap.size ∧ Below W.heap.size W wx)
        case first =>
          have hS : Hid (∀ w', Below W.heap.size W w' → (w'.cell? ⟨gN, 1, none⟩ = some (.int .i64 na) ∧ w'.cell? ⟨gN, 2, none⟩ = some (.int .i64 nb) ∧ w'.cell? ⟨b1, o1 + na * 2, none⟩ = some (.slice p1.fa p1.frs.length p1.fc) ∧ w'.cell? ⟨b1, o1 + na * 2 + 1, none⟩ = some (.slice p1.da p1.dfs.length p1.dc) ∧ w'.cell? ⟨b1, o1 + nb * 2, none⟩ = some (.slice p2.fa p2.frs.length p2.fc) ∧ w'.cell? ⟨b1, o1 + nb * 2 + 1, none⟩ = some (.slice p2.da p2.dfs.length p2.dc))) :=
            fun w' h => ⟨(kN.all h).cell 1, (kN.all h).cell 2, (h.cell (p := ⟨b1, o1 + na * 2, none⟩) bl1).trans ca0, (h.cell (p := ⟨b1, o1 + na * 2 + 1, none⟩) bl1).trans ca1, (h.cell (p := ⟨b1, o1 + nb * 2, none⟩) bl1).trans cb0, (h.cell (p := ⟨b1, o1 + nb * 2 + 1, none⟩) bl1).trans cb1⟩
          have hb := (Below.refl W.heap.size W).drew
          refine wp_region_late (S := (fun w' => (w'.cell? ⟨gN, 1, none⟩ = some (.int .i64 na) ∧ w'.cell? ⟨gN, 2, none⟩ = some (.int .i64 nb) ∧ w'.cell? ⟨b1, o1 + na * 2, none⟩ = some (.slice p1.fa p1.frs.length p1.fc) ∧ w'.cell? ⟨b1, o1 + na * 2 + 1, none⟩ = some (.slice p1.da p1.dfs.length p1.dc) ∧ w'.cell? ⟨b1, o1 + nb * 2, none⟩ = some (.slice p2.fa p2.frs.length p2.fc) ∧ w'.cell? ⟨b1, o1 + nb * 2 + 1, none⟩ = some (.slice p2.da p2.dfs.length p2.dc)))) [] (by kernel_rfl) (hS.out _ hb) (fun hHeld => ?_)
          obtain ⟨wv, hwv⟩ : ∃ x, x = W.drew := ⟨_, rfl⟩
          rw [← hwv] at hb hHeld ⊢
          clear hwv ca0 ca1 cb0 cb1 n0 n1 n2 t0
          (refine wpAnyLT_take (i := 0) (oi := { dst := some 29, op := Op.move (Operand.tmp 6), type := 58, pos := "images.go:311", after := #[], guard := none }) (v := ?_) rfl (by kernel_rfl) (by kernel_rfl) (by kernel_rfl) (fun _ _ _ h => h) (Or.inl ⟨by rfl, ?_⟩) (by assumption) (by kernel_rfl) (by rfl) (by kernel_rfl) ?_; rotate_left; (focus (intro w hSw; (try dsimp only at hSw); go_simp; (try with_reducible rfl))); (try simp only [Act.put, List.setIfInBounds_toArray, List.set_cons_zero, List.set_cons_succ]))
          (refine wpAnyLT_take (i := 1) (oi := { dst := some 30, op := Op.fieldAddr 80 (Operand.tmp 8) 1, type := 0, pos := "images.go:311", after := #[], guard := none }) (v := ?_) rfl (by kernel_rfl) (by kernel_rfl) (by kernel_rfl) (fun _ _ _ h => h) (Or.inl ⟨by rfl, ?_⟩) (by assumption) (by kernel_rfl) (by rfl) (by kernel_rfl) ?_; rotate_left; (focus (intro w hSw; (try dsimp only at hSw); go_simp; (try with_reducible rfl))); (try simp only [Act.put, List.setIfInBounds_toArray, List.set_cons_zero, List.set_cons_succ]))
          (refine wpAnyLT_take (i := 2) (oi := { dst := some 31, op := Op.load 3 (Operand.tmp 30), type := 3, pos := "images.go:311", after := #[{ on := 1, ground := Ground.data }], guard := none }) (v := ?_) rfl (by kernel_rfl) (by kernel_rfl) (by kernel_rfl) (fun _ _ _ h => h) (Or.inl ⟨by rfl, ?_⟩) (by assumption) (by kernel_rfl) (by rfl) (by kernel_rfl) ?_; rotate_left; (focus (intro w hSw; (try dsimp only at hSw); go_simp; (try with_reducible rfl))); (try simp only [Act.put, List.setIfInBounds_toArray, List.set_cons_zero, List.set_cons_succ]))
          (refine wpAnyLT_take (i := 3) (oi := { dst := some 32, op := Op.indexAddr 58 (Operand.tmp 29) (Operand.tmp 31), type := 0, pos := "images.go:311", after := #[{ on := 0, ground := Ground.data }, { on := 2, ground := Ground.data }], guard := none }) (v := ?_) rfl (by kernel_rfl) (by kernel_rfl) (by kernel_rfl) (fun _ _ _ h => h) (Or.inl ⟨by rfl, ?_⟩) (by assumption) (by kernel_rfl) (by rfl) (by kernel_rfl) ?_; rotate_left; (focus (intro w hSw; (try dsimp only at hSw); go_simp; (try with_reducible rfl))); (try simp only [Act.put, List.setIfInBounds_toArray, List.set_cons_zero, List.set_cons_succ]))
          (refine wpAnyLT_take (i := 4) (oi := { dst := some 33, op := Op.load 25 (Operand.tmp 32), type := 25, pos := "images.go:311", after := #[{ on := 3, ground := Ground.data }], guard := none }) (v := ?_) rfl (by kernel_rfl) (by kernel_rfl) (by kernel_rfl) (fun _ _ _ h => h) (Or.inl ⟨by rfl, ?_⟩) (by assumption) (by kernel_rfl) (by rfl) (by kernel_rfl) ?_; rotate_left; (focus (intro w hSw; (try dsimp only at hSw); go_simp; (try with_reducible rfl))); (try simp only [Act.put, List.setIfInBounds_toArray, List.set_cons_zero, List.set_cons_succ]))
          (refine wpAnyLT_take (i := 5) (oi := { dst := some 34, op := Op.move (Operand.tmp 6), type := 58, pos := "images.go:311", after := #[], guard := none }) (v := ?_) rfl (by kernel_rfl) (by kernel_rfl) (by kernel_rfl) (fun _ _ _ h => h) (Or.inl ⟨by rfl, ?_⟩) (by assumption) (by kernel_rfl) (by rfl) (by kernel_rfl) ?_; rotate_left; (focus (intro w hSw; (try dsimp only at hSw); go_simp; (try with_reducible rfl))); (try simp only [Act.put, List.setIfInBounds_toArray, List.set_cons_zero, List.set_cons_succ]))
          (refine wpAnyLT_take (i := 6) (oi := { dst := some 35, op := Op.fieldAddr 80 (Operand.tmp 8) 2, type := 0, pos := "images.go:311", after := #[], guard := none }) (v := ?_) rfl (by kernel_rfl) (by kernel_rfl) (by kernel_rfl) (fun _ _ _ h => h) (Or.inl ⟨by rfl, ?_⟩) (by assumption) (by kernel_rfl) (by rfl) (by kernel_rfl) ?_; rotate_left; (focus (intro w hSw; (try dsimp only at hSw); go_simp; (try with_reducible rfl))); (try simp only [Act.put, List.setIfInBounds_toArray, List.set_cons_zero, List.set_cons_succ]))
          (refine wpAnyLT_take (i := 7) (oi := { dst := some 36, op := Op.load 3 (Operand.tmp 35), type := 3, pos := "images.go:311", after := #[{ on := 6, ground := Ground.data }], guard := none }) (v := ?_) rfl (by kernel_rfl) (by kernel_rfl) (by kernel_rfl) (fun _ _ _ h => h) (Or.inl ⟨by rfl, ?_⟩) (by assumption) (by kernel_rfl) (by rfl) (by kernel_rfl) ?_; rotate_left; (focus (intro w hSw; (try dsimp only at hSw); go_simp; (try with_reducible rfl))); (try simp only [Act.put, List.setIfInBounds_toArray, List.set_cons_zero, List.set_cons_succ]))
          (refine wpAnyLT_take (i := 8) (oi := { dst := some 37, op := Op.indexAddr 58 (Operand.tmp 34) (Operand.tmp 36), type := 0, pos := "images.go:311", after := #[{ on := 5, ground := Ground.data }, { on := 7, ground := Ground.data }], guard := none }) (v := ?_) rfl (by kernel_rfl) (by kernel_rfl) (by kernel_rfl) (fun _ _ _ h => h) (Or.inl ⟨by rfl, ?_⟩) (by assumption) (by kernel_rfl) (by rfl) (by kernel_rfl) ?_; rotate_left; (focus (intro w hSw; (try dsimp only at hSw); go_simp; (try with_reducible rfl))); (try simp only [Act.put, List.setIfInBounds_toArray, List.set_cons_zero, List.set_cons_succ]))
          (refine wpAnyLT_take (i := 9) (oi := { dst := some 38, op := Op.load 25 (Operand.tmp 37), type := 25, pos := "images.go:311", after := #[{ on := 8, ground := Ground.data }], guard := none }) (v := ?_) rfl (by kernel_rfl) (by kernel_rfl) (by kernel_rfl) (fun _ _ _ h => h) (Or.inl ⟨by rfl, ?_⟩) (by assumption) (by kernel_rfl) (by rfl) (by kernel_rfl) ?_; rotate_left; (focus (intro w hSw; (try dsimp only at hSw); go_simp; (try with_reducible rfl))); (try simp only [Act.put, List.setIfInBounds_toArray, List.set_cons_zero, List.set_cons_succ]))
          (refine wpAnyL_ready (rs := [10, 14]) (by kernel_rfl) (by simp) ?_; refine List.forall_mem_cons.2 ⟨?_, List.forall_mem_cons.2 ⟨?_, fun _ h => by cases h⟩⟩)
          · have JN := Lib.hid (refJoin_any p1 p2 wv (a1.all hb) (a2.all hb) k1.out k2.out)
            (refine stepL (o := { dst := some 39, op := Op.call { callee := Callee.value (Operand.func 90), args := #[Operand.tmp 33, Operand.tmp 38], argTypes := #[25, 25] }, type := 129, pos := "images.go:311", after := #[{ on := 4, ground := Ground.data }, { on := 9, ground := Ground.data }], guard := none }) rfl (fun K hK => ?_); (try go_simp); (go_at_call 90; refine JN.out.mono ?_; rintro e w2 ⟨q, rfl, oq, eq, hb2'⟩; have hb2 := hb.trans (hb2'.mono hb.size)); go_wp2_with fail; refine hK.out _ _ (hS.out _ hb2) (fun hHeld => ?_); (clear hK K; (try simp only [Act.put, List.setIfInBounds_toArray, List.set_cons_zero, List.set_cons_succ])))
            clear JN
            (refine wpAnyLT_take (i := 11) (oi := { dst := some 28, op := Op.move (Operand.tmp 39), type := 129, pos := "images.go:311", after := #[{ on := 10, ground := Ground.data }], guard := none }) (v := ?_) rfl (by kernel_rfl) (by kernel_rfl) (by kernel_rfl) (fun _ _ _ h => h) (Or.inl ⟨by rfl, ?_⟩) (by assumption) (by kernel_rfl) (by rfl) (by kernel_rfl) ?_; rotate_left; (focus (intro w hSw; (try dsimp only at hSw); go_simp; (try with_reducible rfl))); (try simp only [Act.put, List.setIfInBounds_toArray, List.set_cons_zero, List.set_cons_succ]))
            (refine wpAnyLT_take (i := 12) (oi := { dst := some 40, op := Op.extract (Operand.tmp 28) 0, type := 25, pos := "images.go:311", after := #[{ on := 11, ground := Ground.data }], guard := none }) (v := ?_) rfl (by kernel_rfl) (by kernel_rfl) (by kernel_rfl) (fun _ _ _ h => h) (Or.inl ⟨by rfl, ?_⟩) (by assumption) (by kernel_rfl) (by rfl) (by kernel_rfl) ?_; rotate_left; (focus (intro w hSw; (try dsimp only at hSw); go_simp; (try with_reducible rfl))); (try simp only [Act.put, List.setIfInBounds_toArray, List.set_cons_zero, List.set_cons_succ]))
            (refine wpAnyLT_take (i := 13) (oi := { dst := some 41, op := Op.extract (Operand.tmp 28) 1, type := 27, pos := "images.go:311", after := #[{ on := 11, ground := Ground.data }, { on := 15, ground := Ground.gcOnly Departure.lateStores }], guard := none }) (v := ?_) rfl (by kernel_rfl) (by kernel_rfl) (by kernel_rfl) (fun _ _ _ h => h) (Or.inl ⟨by rfl, ?_⟩) (by assumption) (by kernel_rfl) (by rfl) (by kernel_rfl) ?_; rotate_left; (focus (intro w hSw; (try dsimp only at hSw); go_simp; (try with_reducible rfl))); (try simp only [Act.put, List.setIfInBounds_toArray, List.set_cons_zero, List.set_cons_succ]))
            (refine wpAnyL_ready (rs := [14]) (by kernel_rfl) (by simp) ?_; refine List.forall_mem_cons.2 ⟨?_, fun _ h => by cases h⟩)
            (refine stepL (o := { dst := some 9, op := Op.alloc 25, type := 0, pos := "images.go:311", after := #[], guard := none }) rfl (fun K hK => ?_); go_simp; refine hK.out _ _ (hS.out _ (hb2.alloc hb2.size _)) (fun hHeld => ?_); (clear hK K; (try simp only [Act.put, List.setIfInBounds_toArray, List.set_cons_zero, List.set_cons_succ])))
            have hb3 := hb2.alloc hb2.size (.cells #[.slice none 0 0, .slice none 0 0] 25)
            have kQ := Blk.new w2 25 #[.slice none 0 0, .slice none 0 0]
            have gqb : W.heap.size ≤ w2.heap.size := hb2.size
            have oq3 := (oq.mono hb.size).alloc (.cells #[.slice none 0 0, .slice none 0 0] 25)
            obtain ⟨gq, hgq⟩ : ∃ x, x = w2.heap.size := ⟨_, rfl⟩
            obtain ⟨wx, hwx⟩ : ∃ x, x = w2.alloc (.cells #[.slice none 0 0, .slice none 0 0] 25) := ⟨_, rfl⟩
            rw [← hgq] at kQ gqb ⊢
            rw [← hwx] at kQ hb3 oq3 hHeld ⊢
            clear hwx hgq hb2 hb2' oq
            have q0 := kQ.cell 0
            have q1 := kQ.cell 1
            have z0 := kQ.frozen 0
            have z1 := kQ.frozen 1
            have hb4 := (hb3.setCell (p := ⟨gq, 0, none⟩) gqb (.slice q.fa q.frs.length q.fc)).setCell (p := ⟨gq, 1, none⟩) gqb (.slice q.da q.dfs.length q.dc)
            (refine wpAnyL_ready (rs := [15]) (by kernel_rfl) (by simp) ?_; refine List.forall_mem_cons.2 ⟨?_, fun _ h => by cases h⟩)
            (refine stepL (o := { dst := none, op := Op.store 25 (Operand.tmp 9) (Operand.tmp 40), type := 0, pos := "images.go:311", after := #[{ on := 14, ground := Ground.data }, { on := 12, ground := Ground.data }, { on := 10, ground := Ground.chain }, { on := 0, ground := Ground.phase }, { on := 1, ground := Ground.phase }, { on := 2, ground := Ground.phase }, { on := 3, ground := Ground.phase }, { on := 4, ground := Ground.phase }, { on := 5, ground := Ground.phase }, { on := 6, ground := Ground.phase }, { on := 7, ground := Ground.phase }, { on := 8, ground := Ground.phase }, { on := 9, ground := Ground.phase }, { on := 10, ground := Ground.phase }, { on := 11, ground := Ground.phase }, { on := 12, ground := Ground.phase }, { on := 13, ground := Ground.textOnly Departure.lateStores }, { on := 14, ground := Ground.phase }], guard := none }) rfl (fun K hK => ?_); go_simp; refine hK.out _ _ (hS.out _ hb4) (fun hHeld => ?_); (clear hK K; (try simp only [Act.put, List.setIfInBounds_toArray, List.set_cons_zero, List.set_cons_succ])))
            clear q0 q1 z0 z1
            (refine wpAnyLT_take (i := 16) (oi := { dst := some 10, op := Op.assign (Operand.tmp 41), type := 27, pos := "images.go:311", after := #[{ on := 13, ground := Ground.data }, { on := 15, ground := Ground.chain }, { on := 0, ground := Ground.phase }, { on := 1, ground := Ground.phase }, { on := 2, ground := Ground.phase }, { on := 3, ground := Ground.phase }, { on := 4, ground := Ground.phase }, { on := 5, ground := Ground.phase }, { on := 6, ground := Ground.phase }, { on := 7, ground := Ground.phase }, { on := 8, ground := Ground.phase }, { on := 9, ground := Ground.phase }, { on := 10, ground := Ground.phase }, { on := 11, ground := Ground.phase }, { on := 12, ground := Ground.phase }, { on := 13, ground := Ground.phase }, { on := 14, ground := Ground.phase }, { on := 15, ground := Ground.phase }], guard := none }) (v := ?_) rfl (by kernel_rfl) (by kernel_rfl) (by kernel_rfl) (fun _ _ _ h => h) (Or.inl ⟨by rfl, ?_⟩) (by assumption) (by kernel_rfl) (by rfl) (by kernel_rfl) ?_; rotate_left; (focus (intro w hSw; (try dsimp only at hSw); go_simp; (try with_reducible rfl))); (try simp only [Act.put, List.setIfInBounds_toArray, List.set_cons_zero, List.set_cons_succ]))
            refine wpAnyL_done (by kernel_rfl) ?_ _
            go_wp2
            go_meet
            exact ⟨q, _, _, rfl, rfl, (by show _ = _; rw [eq]), (kQ.set_ 0 _).set_ 1 _, (oq3.blk kQ (by decide) (by decide) (by decide) (by decide) _).blk (kQ.set_ 0 _) (by decide) (by decide) (by decide) (by decide) _, hb4⟩
          · (refine stepL (o := { dst := some 9, op := Op.alloc 25, type := 0, pos := "images.go:311", after := #[], guard := none }) rfl (fun K hK => ?_); go_simp; refine hK.out _ _ (hS.out _ (hb.alloc hb.size _)) (fun hHeld => ?_); (clear hK K; (try simp only [Act.put, List.setIfInBounds_toArray, List.set_cons_zero, List.set_cons_succ])))
            have kQ := Blk.new wv 25 #[.slice none 0 0, .slice none 0 0]
            have gqb : W.heap.size ≤ wv.heap.size := hb.size
            replace hb := hb.alloc hb.size (.cells #[.slice none 0 0, .slice none 0 0] 25)
            obtain ⟨gq, hgq⟩ : ∃ x, x = wv.heap.size := ⟨_, rfl⟩
            obtain ⟨wx, hwx⟩ : ∃ x, x = wv.alloc (.cells #[.slice none 0 0, .slice none 0 0] 25) := ⟨_, rfl⟩
            rw [← hgq] at kQ gqb ⊢
            rw [← hwx] at kQ hb hHeld ⊢
            clear hwx hgq
            have JN := Lib.hid (refJoin_any p1 p2 wx (a1.all hb) (a2.all hb) k1.out k2.out)
            (refine wpAnyL_ready (rs := [10]) (by kernel_rfl) (by simp) ?_; refine List.forall_mem_cons.2 ⟨?_, fun _ h => by cases h⟩)
            (refine stepL (o := { dst := some 39, op := Op.call { callee := Callee.value (Operand.func 90), args := #[Operand.tmp 33, Operand.tmp 38], argTypes := #[25, 25] }, type := 129, pos := "images.go:311", after := #[{ on := 4, ground := Ground.data }, { on := 9, ground := Ground.data }], guard := none }) rfl (fun K hK => ?_); (try go_simp); (go_at_call 90; refine JN.out.mono ?_; rintro e w2 ⟨q, rfl, oq, eq, hb2'⟩; have hb2 := hb.trans (hb2'.mono hb.size)); go_wp2_with fail; refine hK.out _ _ (hS.out _ hb2) (fun hHeld => ?_); (clear hK K; (try simp only [Act.put, List.setIfInBounds_toArray, List.set_cons_zero, List.set_cons_succ])))
            clear JN
            (refine wpAnyLT_take (i := 11) (oi := { dst := some 28, op := Op.move (Operand.tmp 39), type := 129, pos := "images.go:311", after := #[{ on := 10, ground := Ground.data }], guard := none }) (v := ?_) rfl (by kernel_rfl) (by kernel_rfl) (by kernel_rfl) (fun _ _ _ h => h) (Or.inl ⟨by rfl, ?_⟩) (by assumption) (by kernel_rfl) (by rfl) (by kernel_rfl) ?_; rotate_left; (focus (intro w hSw; (try dsimp only at hSw); go_simp; (try with_reducible rfl))); (try simp only [Act.put, List.setIfInBounds_toArray, List.set_cons_zero, List.set_cons_succ]))
            (refine wpAnyLT_take (i := 12) (oi := { dst := some 40, op := Op.extract (Operand.tmp 28) 0, type := 25, pos := "images.go:311", after := #[{ on := 11, ground := Ground.data }], guard := none }) (v := ?_) rfl (by kernel_rfl) (by kernel_rfl) (by kernel_rfl) (fun _ _ _ h => h) (Or.inl ⟨by rfl, ?_⟩) (by assumption) (by kernel_rfl) (by rfl) (by kernel_rfl) ?_; rotate_left; (focus (intro w hSw; (try dsimp only at hSw); go_simp; (try with_reducible rfl))); (try simp only [Act.put, List.setIfInBounds_toArray, List.set_cons_zero, List.set_cons_succ]))
            (refine wpAnyLT_take (i := 13) (oi := { dst := some 41, op := Op.extract (Operand.tmp 28) 1, type := 27, pos := "images.go:311", after := #[{ on := 11, ground := Ground.data }, { on := 15, ground := Ground.gcOnly Departure.lateStores }], guard := none }) (v := ?_) rfl (by kernel_rfl) (by kernel_rfl) (by kernel_rfl) (fun _ _ _ h => h) (Or.inl ⟨by rfl, ?_⟩) (by assumption) (by kernel_rfl) (by rfl) (by kernel_rfl) ?_; rotate_left; (focus (intro w hSw; (try dsimp only at hSw); go_simp; (try with_reducible rfl))); (try simp only [Act.put, List.setIfInBounds_toArray, List.set_cons_zero, List.set_cons_succ]))
            replace kQ := kQ.all hb2'
            have oq3 := oq.mono hb.size
            have q0 := kQ.cell 0
            have q1 := kQ.cell 1
            have z0 := kQ.frozen 0
            have z1 := kQ.frozen 1
            have hb4 := (hb2.setCell (p := ⟨gq, 0, none⟩) gqb (.slice q.fa q.frs.length q.fc)).setCell (p := ⟨gq, 1, none⟩) gqb (.slice q.da q.dfs.length q.dc)
            (refine wpAnyL_ready (rs := [15]) (by kernel_rfl) (by simp) ?_; refine List.forall_mem_cons.2 ⟨?_, fun _ h => by cases h⟩)
            (refine stepL (o := { dst := none, op := Op.store 25 (Operand.tmp 9) (Operand.tmp 40), type := 0, pos := "images.go:311", after := #[{ on := 14, ground := Ground.data }, { on := 12, ground := Ground.data }, { on := 10, ground := Ground.chain }, { on := 0, ground := Ground.phase }, { on := 1, ground := Ground.phase }, { on := 2, ground := Ground.phase }, { on := 3, ground := Ground.phase }, { on := 4, ground := Ground.phase }, { on := 5, ground := Ground.phase }, { on := 6, ground := Ground.phase }, { on := 7, ground := Ground.phase }, { on := 8, ground := Ground.phase }, { on := 9, ground := Ground.phase }, { on := 10, ground := Ground.phase }, { on := 11, ground := Ground.phase }, { on := 12, ground := Ground.phase }, { on := 13, ground := Ground.textOnly Departure.lateStores }, { on := 14, ground := Ground.phase }], guard := none }) rfl (fun K hK => ?_); go_simp; refine hK.out _ _ (hS.out _ hb4) (fun hHeld => ?_); (clear hK K; (try simp only [Act.put, List.setIfInBounds_toArray, List.set_cons_zero, List.set_cons_succ])))
            clear q0 q1 z0 z1
            (refine wpAnyLT_take (i := 16) (oi := { dst := some 10, op := Op.assign (Operand.tmp 41), type := 27, pos := "images.go:311", after := #[{ on := 13, ground := Ground.data }, { on := 15, ground := Ground.chain }, { on := 0, ground := Ground.phase }, { on := 1, ground := Ground.phase }, { on := 2, ground := Ground.phase }, { on := 3, ground := Ground.phase }, { on := 4, ground := Ground.phase }, { on := 5, ground := Ground.phase }, { on := 6, ground := Ground.phase }, { on := 7, ground := Ground.phase }, { on := 8, ground := Ground.phase }, { on := 9, ground := Ground.phase }, { on := 10, ground := Ground.phase }, { on := 11, ground := Ground.phase }, { on := 12, ground := Ground.phase }, { on := 13, ground := Ground.phase }, { on := 14, ground := Ground.phase }, { on := 15, ground := Ground.phase }], guard := none }) (v := ?_) rfl (by kernel_rfl) (by kernel_rfl) (by kernel_rfl) (fun _ _ _ h => h) (Or.inl ⟨by rfl, ?_⟩) (by assumption) (by kernel_rfl) (by rfl) (by kernel_rfl) ?_; rotate_left; (focus (intro w hSw; (try dsimp only at hSw); go_simp; (try with_reducible rfl))); (try simp only [Act.put, List.setIfInBounds_toArray, List.set_cons_zero, List.set_cons_succ]))
            refine wpAnyL_done (by kernel_rfl) ?_ _
            go_wp2
            go_meet
            exact ⟨q, _, _, rfl, rfl, (by show _ = _; rw [eq]), (kQ.set_ 0 _).set_ 1 _, (oq3.blk kQ (by decide) (by decide) (by decide) (by decide) _).blk (kQ.set_ 0 _) (by decide) (by decide) (by decide) (by decide) _, hb4⟩
        case rest =>
          obtain ⟨q, n, g, rfl, rfl, hj, kq, oq, hb6⟩ := hcut
          have oq := oq.mono hEV.hB.size
          have hEV := hEV.all hb6
          clear a1 a2 ca0 ca1 cb0 cb1 bl0 bl1 n0 n1 n2 kN hb6 t0
          by_cases hn0 : n = 0
          · subst hn0
            have hstep : Hid (evalUp (ps.map PtM.er) (qs.map PtM.er) (l.drop k) = evalUp (ps.map PtM.er) (qs.map PtM.er ++ [q.er]) (l.drop (k + 1))) := by
              show _ = _
              rw [hdr.out, evalUp_ok HL0.out (by rw [g1.out, g2.out, hj.out]), g1.out, g2.out, hj.out]
            have q0 := kq.cell 0
            have q1 := kq.cell 1
            have gl := kq.lt
            have hWs := hEV.hB.size
            have hqO := Lib.hid (joinP_right hj.out)
            obtain ⟨i0, hi, hiz, his, hib⟩ := info_parts Tryd.infoParts
            go_wp2_with (at_builtin
                         refine wpList_append_own _ rfl (.tmp 45) (.tmp 47) 58 rfl w.heap.size 25 i0 _ 2 48 Tryd.underlying58 hi hiz his hib rfl (by decide) _ _ _ rfl (hEV.hz.alloc _) ⟨wc.heap.size, 0, none⟩ 1 1 [.slice q.fa q.frs.length q.fc, .slice q.da q.dfs.length q.dc] rfl rfl ?c1 ?c2 ?c3 ?c4 ?c5 ?_
                         case c1 => exact fun j u hu => cells_new j u hu
                         case c2 => exact pt_one q
                         case c3 => unfold maxLen; omega
                         case c4 => omega
                         case c5 => simp; omega
                         intro v' w5 hown5 hg5 _
                         have hst : Below wc.heap.size wc (wc.alloc (.cells #[.slice (q).fa (q).frs.length (q).fc, .slice (q).da (q).dfs.length (q).dc] 25)) := by (repeat' (first | exact Below.refl _ _ | assumption | refine Below.setCell ?_ (by first | omega | exact Below.size (by assumption) | (simp; done) | (simp; omega)) _ | refine Below.alloc ?_ (by first | omega | exact Below.size (by assumption) | (simp; done) | (simp; omega)) _ | refine Below.drew ?_ | refine below_drewN ?_ _))
                         have hE5 := (hEV.all hst).push (q := q) hqO.out (.inr (oq.alloc _)) hown5 hg5
                         clear hst hg5 hown5)
            go_roundw
            case rel => exact ⟨k + 1, qs ++ [q], by omega, by go_num, Lib.hid (by rw [List.length_append, hql.out]; rfl), Lib.hid (by rw [hev.out, hstep.out, List.map_append]; rfl), hE5⟩
            case measure => simp [intOf]; omega
          · have hE : Hid (evalUp (ps.map PtM.er) [] l = ([], n)) := by
              show _ = _
              rw [hev.out, hdr.out, evalUp_bad HL0.out (by rw [g1.out, g2.out, hj.out]; exact hn0), g1.out, g2.out, hj.out]
            have t1 : (n != 0) = true := by simpa using hn0
            have HN := Lib.hid hn0
            clear hn0
            go_wp2
            go_ret2
            exact ⟨_, [], by rw [hE.out]; rfl, fun _ => rfl, fun h0 => absurd (by rw [hE.out] at h0; exact h0) HN.out, hEV.hB⟩
    · obtain rfl : k = l.length := by omega
      have hE : Hid (evalUp (ps.map PtM.er) [] l = (qs.map PtM.er, 0)) := by
        show _ = _
        rw [hev.out, List.drop_length]; rfl
      go_wp2
      go_ret2
      exact ⟨_, qs, by rw [hE.out]; rfl, fun h0 => absurd (by rw [hE.out]) h0, fun _ => ⟨hEV, by rw [hE.out]⟩, hEV.hB⟩
end Go.Proofs.YtokiekachlmigaaDoor
