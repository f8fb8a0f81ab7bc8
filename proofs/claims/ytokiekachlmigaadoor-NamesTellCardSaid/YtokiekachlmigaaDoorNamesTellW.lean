/- ropewalklaw.NamesTell: it answers true. -/
import Derived.Test.YtokiekachlmigaaDoorRefFault
import Derived.Test.YtokiekachlmigaaDoorRefCheck
import Derived.Test.YtokiekachlmigaaDoorNmF
import Derived.Test.YtokiekachlmigaaDoorLackW
set_option linter.all false
namespace Go.Proofs.YtokiekachlmigaaDoor
open Go.RowKit
set_option maxRecDepth 100000

set_option maxHeartbeats 16000000 in
theorem namesTell_any (p : PtM) (s : ByteArray) (w : World) (h : p.At w w.heap.size) :
    Calls Tryd.prog 3 #[.agg #[.slice p.fa p.frs.length p.fc, .slice p.da p.dfs.length p.dc], .string s] w fun e w' => e = .returned (.bool true) ∧ Below w.heap.size w w' := by
  have kP := Blk.new w 25 #[.slice p.fa p.frs.length p.fc, .slice p.da p.dfs.length p.dc]
  have hB : Below w.heap.size w (w.alloc (.cells #[.slice (p).fa (p).frs.length (p).fc, .slice (p).da (p).dfs.length (p).dc] 25)) := by (repeat' (first | exact Below.refl _ _ | assumption | refine Below.setCell ?_ (by first | omega | exact Below.size (by assumption) | (simp; done) | (simp; omega)) _ | refine Below.alloc ?_ (by first | omega | exact Below.size (by assumption) | (simp; done) | (simp; omega)) _ | refine Below.drew ?_ | refine below_drewN ?_ _))
  have hP := h.all hB
  go_enter Tryd.func3, Tryd.ntmps3
  go_upto_region 1 with (fail)
  obtain ⟨W, hW⟩ : ∃ y, y = w.alloc (.cells #[.slice (p).fa (p).frs.length (p).fc, .slice (p).da (p).dfs.length (p).dc] 25) := ⟨_, rfl⟩
  obtain ⟨gP, hgP⟩ : ∃ g, g = w.heap.size := ⟨_, rfl⟩
  rw [← hgP] at kP ⊢
  rw [← hW] at kP hB hP ⊢
  clear hW hgP h
  by_cases hc : ckPart p.er = 0
  · have HC := Lib.hid hc
    have HFP : Hid (findP p.er s = findL p.dfs s) := findP_ok hc
    obtain ⟨L1, hL1⟩ : ∃ L, wantedP p.er = L := ⟨_, rfl⟩
    obtain ⟨L2, hL2⟩ : ∃ L, definedP p.er = L := ⟨_, rfl⟩
    obtain ⟨L3, hL3⟩ : ∃ L, lackingP p.er = L := ⟨_, rfl⟩
    obtain ⟨FL, hFL⟩ : ∃ L, faultsP p.er = L := ⟨_, rfl⟩
    have wl := wanted_len hc
    have dl := defined_len hc
    rw [hL1] at wl
    rw [hL2] at dl
    have HL1 := Lib.hid hL1
    have HL2 := Lib.hid hL2
    have HL3 := Lib.hid hL3
    have HFL := Lib.hid hFL
    have HLK : Hid (L1.filter (notIn L2) = L3) := by show _ = _; rw [← hL1, ← hL2, ← hL3]; rfl
    have l3l : L3.length ≤ 480 := by rw [← HLK.out]; exact Nat.le_trans (List.length_filter_le _ _) wl
    have fll : FL.length ≤ 540 := by
      rw [← hFL]
      unfold faultsP
      refine Nat.le_trans (List.length_filterMap_le _ _) (Nat.le_trans (setS_len _) ?_)
      rw [List.length_append, hL1, hL2]
      omega
    clear hc hL1 hL2 hL3 hFL
    (have p0 := kP.cell 0; have p1 := kP.cell 1; go_wp2_with fail; clear p0 p1)
    refine (wanted_any p W hP).mono ?_
    (rintro e w1 ⟨v, rfl, _, hv, hb⟩; have o := hv HC.out; rw [HL1.out] at o; obtain ⟨A1, c1, rfl, _, _⟩ := own_form o; rw [HC.out]; ((try replace R1 := (R1.below hb).more (hb).size); (try replace R2 := (R2.below hb).more (hb).size); (try replace R3 := (R3.below hb).more (hb).size); (try replace R5 := (R5.below hb).more (hb).size); (try replace R6 := (R6.below hb).more (hb).size); (try replace R7 := (R7.below hb).more (hb).size); (try replace R8 := (R8.below hb).more (hb).size); (try replace kX := kX.all hb); (try replace kY := kY.all hb); replace kP := kP.all hb; replace hP := hP.all hb; replace hB := hB.trans ((hb).mono hB.size)); have R1 := Reads.of_own o; clear hv o hb)
    (have p0 := kP.cell 0; have p1 := kP.cell 1; go_wp2_with fail; clear p0 p1)
    refine (defined_any p w1 hP).mono ?_
    (rintro e w2 ⟨v, rfl, _, hv, hb⟩; have o := hv HC.out; rw [HL2.out] at o; obtain ⟨A2, c2, rfl, _, _⟩ := own_form o; rw [HC.out]; ((try replace R1 := (R1.below hb).more (hb).size); (try replace R2 := (R2.below hb).more (hb).size); (try replace R3 := (R3.below hb).more (hb).size); (try replace R5 := (R5.below hb).more (hb).size); (try replace R6 := (R6.below hb).more (hb).size); (try replace R7 := (R7.below hb).more (hb).size); (try replace R8 := (R8.below hb).more (hb).size); (try replace kX := kX.all hb); (try replace kY := kY.all hb); replace kP := kP.all hb; replace hP := hP.all hb; replace hB := hB.trans ((hb).mono hB.size)); have R2 := Reads.of_own o; clear hv o hb)
    (have p0 := kP.cell 0; have p1 := kP.cell 1; go_wp2_with fail; clear p0 p1)
    refine (lacking_any p w2 hP).mono ?_
    (rintro e w3 ⟨v, rfl, _, hv, hb⟩; have o := hv HC.out; rw [HL3.out] at o; obtain ⟨A3, c3, rfl, _, _⟩ := own_form o; rw [HC.out]; ((try replace R1 := (R1.below hb).more (hb).size); (try replace R2 := (R2.below hb).more (hb).size); (try replace R3 := (R3.below hb).more (hb).size); (try replace R5 := (R5.below hb).more (hb).size); (try replace R6 := (R6.below hb).more (hb).size); (try replace R7 := (R7.below hb).more (hb).size); (try replace R8 := (R8.below hb).more (hb).size); (try replace kX := kX.all hb); (try replace kY := kY.all hb); replace kP := kP.all hb; replace hP := hP.all hb; replace hB := hB.trans ((hb).mono hB.size)); have R3 := Reads.of_own o; clear hv o hb)
    (have p0 := kP.cell 0; have p1 := kP.cell 1; go_wp2_with fail; clear p0 p1)
    refine (findOut_any p s w3 hP).mono ?_
    rintro e w4 ⟨rfl, hb⟩
    rw [HFP.out]
    obtain ⟨⟨d, x⟩, hd⟩ : ∃ r, findL p.dfs s = r := ⟨_, rfl⟩
    rw [hd]
    have HD := Lib.hid hd
    clear hd
    go_upto_region 5 with (fail)
    have hbx := hb.alloc hb.size (.cells #[.string (d).name, .int .i64 (d).kind, .int .i64 (d).frag, .int .i64 (d).at_, .int .i64 (d).size, .int .i64 (d).align] 31)
    have kX0 := Blk.new w4 31 #[.string (d).name, .int .i64 (d).kind, .int .i64 (d).frag, .int .i64 (d).at_, .int .i64 (d).size, .int .i64 (d).align]
    ((try replace R1 := (R1.below hbx).more (hbx).size); (try replace R2 := (R2.below hbx).more (hbx).size); (try replace R3 := (R3.below hbx).more (hbx).size); (try replace R5 := (R5.below hbx).more (hbx).size); (try replace R6 := (R6.below hbx).more (hbx).size); (try replace R7 := (R7.below hbx).more (hbx).size); (try replace R8 := (R8.below hbx).more (hbx).size); (try replace kX := kX.all hbx); (try replace kY := kY.all hbx); replace kP := kP.all hbx; replace hP := hP.all hbx; replace hB := hB.trans ((hbx).mono hB.size))
    obtain ⟨gX, hgX⟩ : ∃ g, g = w4.heap.size := ⟨_, rfl⟩
    obtain ⟨w5, hw5⟩ : ∃ y, y = w4.alloc (.cells #[.string (d).name, .int .i64 (d).kind, .int .i64 (d).frag, .int .i64 (d).at_, .int .i64 (d).size, .int .i64 (d).align] 31) := ⟨_, rfl⟩
    rw [← hgX] at kX0 ⊢
    rw [← hw5] at kX0 kP hP hB R1 R2 R3 ⊢
    have kX := kX0
    clear hw5 hgX hbx hb kX0
    (have p0 := kP.cell 0; have p1 := kP.cell 1; go_wp2_with fail; clear p0 p1)
    refine (faults_any p w5 hP).mono ?_
    (rintro e w6 ⟨v, rfl, _, hv, hb⟩; have o := hv HC.out; rw [HFL.out] at o; obtain ⟨A5, c5, rfl, _, _⟩ := own_form o; rw [HC.out]; ((try replace R1 := (R1.below hb).more (hb).size); (try replace R2 := (R2.below hb).more (hb).size); (try replace R3 := (R3.below hb).more (hb).size); (try replace R5 := (R5.below hb).more (hb).size); (try replace R6 := (R6.below hb).more (hb).size); (try replace R7 := (R7.below hb).more (hb).size); (try replace R8 := (R8.below hb).more (hb).size); (try replace kX := kX.all hb); (try replace kY := kY.all hb); replace kP := kP.all hb; replace hP := hP.all hb; replace hB := hB.trans ((hb).mono hB.size)); have R5 := Reads.of_own o; clear hv o hb)
    (have p0 := kP.cell 0; have p1 := kP.cell 1; go_wp2_with fail; clear p0 p1)
    refine (refCheck_any p w6 hP).mono ?_
    rintro e w7 ⟨rfl, hb⟩
    rw [HC.out]
    ((try replace R1 := (R1.below hb).more (hb).size); (try replace R2 := (R2.below hb).more (hb).size); (try replace R3 := (R3.below hb).more (hb).size); (try replace R5 := (R5.below hb).more (hb).size); (try replace R6 := (R6.below hb).more (hb).size); (try replace R7 := (R7.below hb).more (hb).size); (try replace R8 := (R8.below hb).more (hb).size); (try replace kX := kX.all hb); (try replace kY := kY.all hb); replace kP := kP.all hb; replace hP := hP.all hb; replace hB := hB.trans ((hb).mono hB.size))
    clear hb
    go_wp2_with fail
    refine (found_any w7).mono ?_
    rintro e w8 ⟨rfl, hb⟩
    ((try replace R1 := (R1.below hb).more (hb).size); (try replace R2 := (R2.below hb).more (hb).size); (try replace R3 := (R3.below hb).more (hb).size); (try replace R5 := (R5.below hb).more (hb).size); (try replace R6 := (R6.below hb).more (hb).size); (try replace R7 := (R7.below hb).more (hb).size); (try replace R8 := (R8.below hb).more (hb).size); (try replace kX := kX.all hb); (try replace kY := kY.all hb); replace kP := kP.all hb; replace hP := hP.all hb; replace hB := hB.trans ((hb).mono hB.size))
    clear hb
    go_upto_region 9 with (fail)
    obtain ⟨W, hW⟩ : ∃ y, y = w8 := ⟨_, rfl⟩
    rw [← hW] at kP hP hB R1 R2 R3 R5 kX ⊢
    clear hW
    go_cut [16, 17] (fun s t wx => ∃ (A : Option Addr) (c : Nat) (A' : Option Addr) (c' : Nat), s = .slice A L1.length c ∧ t = .slice A' L2.length c' ∧ Reads wx wx.heap.size 1 A L1.length (strsV L1) ∧ Reads wx wx.heap.size 1 A' L2.length (strsV L2) ∧ Below W.heap.size W wx)
    case first =>
      have hS : Hid (∀ w', Below W.heap.size W w' → (w'.cell? ⟨gP, 0, none⟩ = some (.slice p.fa p.frs.length p.fc) ∧ w'.cell? ⟨gP, 1, none⟩ = some (.slice p.da p.dfs.length p.dc))) :=
        fun w' hx => ⟨(kP.all hx).cell 0, (kP.all hx).cell 1⟩
      have hbv := (Below.refl W.heap.size W).drew
      refine wp_region_late (S := (fun w' => w'.cell? ⟨gP, 0, none⟩ = some (.slice p.fa p.frs.length p.fc) ∧ w'.cell? ⟨gP, 1, none⟩ = some (.slice p.da p.dfs.length p.dc))) [] (by kernel_rfl) (hS.out _ hbv) (fun hHeld => ?_)
      obtain ⟨wv, hwv⟩ : ∃ x, x = W.drew := ⟨_, rfl⟩
      rw [← hwv] at hbv hHeld ⊢
      clear hwv
      (refine wpAnyLT_take (i := 0) (oi := { dst := some 102, op := Op.load 25 (Operand.tmp 2), type := 25, pos := "law1.go:235", after := #[], guard := none }) (v := ?_) rfl (by kernel_rfl) (by kernel_rfl) (by kernel_rfl) (fun _ _ _ h => h) (Or.inl ⟨by rfl, ?_⟩) (by assumption) (by kernel_rfl) (by rfl) (by kernel_rfl) ?_; rotate_left; (focus (intro w hSw; (try dsimp only at hSw); go_simp; (try with_reducible rfl))); (try simp only [Act.put, List.setIfInBounds_toArray, List.set_cons_zero, List.set_cons_succ]))
      (refine wpAnyLT_take (i := 2) (oi := { dst := some 104, op := Op.load 25 (Operand.tmp 2), type := 25, pos := "law1.go:235", after := #[], guard := none }) (v := ?_) rfl (by kernel_rfl) (by kernel_rfl) (by kernel_rfl) (fun _ _ _ h => h) (Or.inl ⟨by rfl, ?_⟩) (by assumption) (by kernel_rfl) (by rfl) (by kernel_rfl) ?_; rotate_left; (focus (intro w hSw; (try dsimp only at hSw); go_simp; (try with_reducible rfl))); (try simp only [Act.put, List.setIfInBounds_toArray, List.set_cons_zero, List.set_cons_succ]))
      (refine wpAnyL_ready (rs := [1]) (by kernel_rfl) (by simp) ?_; refine List.forall_mem_cons.2 ⟨?_, fun _ h => by cases h⟩)
      (refine stepL (o := { dst := some 103, op := Op.call { callee := Callee.value (Operand.func 16), args := #[Operand.tmp 102], argTypes := #[25] }, type := 26, pos := "law1.go:235", after := #[{ on := 0, ground := Ground.data }], guard := none }) rfl (fun K hK => ?_); (try go_simp))
      (go_at_call 16; refine (wantedBy_any p wv (hP.all hbv) HC.out).mono ?_; rintro e wa ⟨v1, rfl, oa, hq⟩; rw [HL1.out] at oa; have hba := hbv.trans (hq.mono hbv.size); replace oa := oa.mono (base' := W.heap.size) hbv.size; obtain ⟨A1, c1, rfl, _, _⟩ := own_form oa)
      (go_wp2_with fail; refine hK.out _ _ (hS.out _ hba) (fun hHeld => ?_); (clear hK K; (try simp only [Act.put, List.setIfInBounds_toArray, List.set_cons_zero, List.set_cons_succ])))
      clear hq
      (refine wpAnyL_ready (rs := [3]) (by kernel_rfl) (by simp) ?_; refine List.forall_mem_cons.2 ⟨?_, fun _ h => by cases h⟩)
      (refine stepL (o := { dst := some 105, op := Op.call { callee := Callee.value (Operand.func 17), args := #[Operand.tmp 104], argTypes := #[25] }, type := 26, pos := "law1.go:235", after := #[{ on := 2, ground := Ground.data }, { on := 1, ground := Ground.chain }], guard := none }) rfl (fun K hK => ?_); (try go_simp))
      (go_at_call 17; refine (definedBy_any p wa (hP.all hba) HC.out).mono ?_; rintro e wb ⟨v2, rfl, o2, hq⟩; rw [HL2.out] at o2; have hb2 := hba.trans (hq.mono hba.size); replace o2 := o2.mono (base' := W.heap.size) hba.size; obtain ⟨A2, c2, rfl, _, _⟩ := own_form o2)
      have o1 := own_all oa hq
      clear oa hq
      (go_wp2_with fail; refine hK.out _ _ (hS.out _ hb2) (fun hHeld => ?_); (clear hK K; (try simp only [Act.put, List.setIfInBounds_toArray, List.set_cons_zero, List.set_cons_succ])))
      (refine wpAnyLT_take (i := 4) (oi := { dst := some 16, op := Op.assign (Operand.tmp 103), type := 26, pos := "law1.go:235", after := #[{ on := 1, ground := Ground.data }, { on := 3, ground := Ground.chain }, { on := 0, ground := Ground.phase }, { on := 1, ground := Ground.phase }, { on := 2, ground := Ground.textOnly Departure.lateStores }, { on := 3, ground := Ground.textOnly Departure.lateStoresUnsure }], guard := none }) (v := ?_) rfl (by kernel_rfl) (by kernel_rfl) (by kernel_rfl) (fun _ _ _ h => h) (Or.inl ⟨by rfl, ?_⟩) (by assumption) (by kernel_rfl) (by rfl) (by kernel_rfl) ?_; rotate_left; (focus (intro w hSw; (try dsimp only at hSw); go_simp; (try with_reducible rfl))); (try simp only [Act.put, List.setIfInBounds_toArray, List.set_cons_zero, List.set_cons_succ]))
      (refine wpAnyLT_take (i := 5) (oi := { dst := some 17, op := Op.assign (Operand.tmp 105), type := 26, pos := "law1.go:235", after := #[{ on := 3, ground := Ground.data }, { on := 4, ground := Ground.chain }, { on := 0, ground := Ground.phase }, { on := 1, ground := Ground.phase }, { on := 2, ground := Ground.phase }, { on := 3, ground := Ground.phase }, { on := 4, ground := Ground.phase }], guard := none }) (v := ?_) rfl (by kernel_rfl) (by kernel_rfl) (by kernel_rfl) (fun _ _ _ h => h) (Or.inl ⟨by rfl, ?_⟩) (by assumption) (by kernel_rfl) (by rfl) (by kernel_rfl) ?_; rotate_left; (focus (intro w hSw; (try dsimp only at hSw); go_simp; (try with_reducible rfl))); (try simp only [Act.put, List.setIfInBounds_toArray, List.set_cons_zero, List.set_cons_succ]))
      refine wpAnyL_done (by kernel_rfl) ?_ _
      have r1 := Reads.of_own o1
      have r2 := Reads.of_own o2
      clear hHeld hS
      go_wp2
      go_meet
      exact ⟨A1, c1, A2, c2, rfl, rfl, r1, r2, hb2⟩
    case rest =>
      obtain ⟨A6, c6, A7, c7, rfl, rfl, r6, r7, hb⟩ := hcut
      ((try replace R1 := (R1.below hb).more (hb).size); (try replace R2 := (R2.below hb).more (hb).size); (try replace R3 := (R3.below hb).more (hb).size); (try replace R5 := (R5.below hb).more (hb).size); (try replace R6 := (R6.below hb).more (hb).size); (try replace R7 := (R7.below hb).more (hb).size); (try replace R8 := (R8.below hb).more (hb).size); (try replace kX := kX.all hb); (try replace kY := kY.all hb); replace kP := kP.all hb; replace hP := hP.all hb; replace hB := hB.trans ((hb).mono hB.size))
      clear hb
      go_wp2_with fail
      go_loopw [18, 108] (fun v i wr => ∃ k : Nat, k ≤ L1.length ∧ i = .int .i64 k ∧ wr.ownsRow wc.heap.size 9 1 v ((L1.take k).filter (notIn L2)).length (strsV ((L1.take k).filter (notIn L2))) ∧ Below wc.heap.size wc wr) (fun _ i _ => L1.length - (intOf i).toNat)
      case atStart => exact ⟨0, Nat.zero_le _, rfl, World.ownsRow_nil _ _ _ _, Below.refl _ _⟩
      case round =>
        obtain ⟨k, hk, rfl, hown, hb⟩ := hrel
        obtain ⟨A8, c8, rfl, _, _⟩ := own_form hown
        have q6 := (r6.below hb).more hb.size
        have q7 := (r7.below hb).more hb.size
        have hfl : ((L1.take k).filter (notIn L2)).length ≤ k := Nat.le_trans (List.length_filter_le _ _) (List.length_take_le _ _)
        obtain ⟨lk, hlk⟩ : ∃ l, (L1.take k).filter (notIn L2) = l := ⟨_, rfl⟩
        rw [hlk] at hown hfl ⊢
        have HLk := Lib.hid hlk
        clear hlk
        by_cases hlt : k < L1.length
        · obtain ⟨s0, hs0⟩ : ∃ s0, L1[k]? = some s0 := ⟨_, List.getElem?_eq_getElem hlt⟩
          obtain ⟨b, off, hA, q0⟩ := str_get q6 hs0
          have CT := Lib.hid (containsStr_any A7 c7 L2 s0 wr q7 (by omega))
          have i1 : (k : Int) < (L1.length : Int) := by omega
          have HT : Hid ((L1.take (k + 1)).filter (notIn L2) = lk ++ [s0].filter (notIn L2)) := by
            show _ = _
            rw [List.take_add_one, hs0, List.filter_append, HLk.out]; rfl
          rw [hA] at q6 ⊢
          have HA := Lib.hid hA
          clear hs0 hA q7
          by_cases hm : s0 ∈ L2
          · have hd : decide (s0 ∈ L2) = true := decide_eq_true hm
            have HT2 : Hid ((L1.take (k + 1)).filter (notIn L2) = lk) := by
              show _ = _
              rw [HT.out, List.filter_cons_of_neg (by unfold notIn inB; rw [hd]; decide), List.filter_nil, List.append_nil]
            rw [hd] at CT
            clear hm hd
            go_wp2_with fail
            refine CT.out.mono ?_
            rintro e w' ⟨rfl, rfl⟩
            go_wp2
            go_roundw
            case rel => exact ⟨k + 1, by omega, by go_num, by rw [HT2.out]; exact hown, hb⟩
            case measure => simp [intOf]; omega
          · have hd : decide (s0 ∈ L2) = false := decide_eq_false hm
            have HT2 : Hid ((L1.take (k + 1)).filter (notIn L2) = lk ++ [s0]) := by
              show _ = _
              rw [HT.out, List.filter_cons_of_pos (by unfold notIn inB; rw [hd]; decide), List.filter_nil]
            rw [hd] at CT
            clear hm hd
            go_wp2_with fail
            refine CT.out.mono ?_
            rintro e w' ⟨rfl, rfl⟩
            clear CT q0
            obtain ⟨i0, hi, hz0, hz1, hz2⟩ := info_parts Tryd.infoStr
            have hsz := hb.size
            go_wp2_with (at_builtin
                         refine wpList_append_own _ rfl (.tmp 116) (.tmp 118) 26 rfl wc.heap.size 9 i0 (.string ⟨#[]⟩) 1 16 Tryd.underlying26 hi hz0 hz1 hz2 rfl (by decide) _ _ _ rfl (hown.alloc _) ⟨_, 0, none⟩ 1 1 [.string s0] rfl rfl ?c1 ?c2 ?c3 ?c4 ?c5 ?_
                         case c1 => exact fun j u hu => cells_new j u hu
                         case c2 => intro u hu; simp at hu; subst hu; rfl
                         case c3 => unfold maxLen; omega
                         case c4 => omega
                         case c5 => have := hb.size; simp; omega
                         intro v8 w9 hown9 hg9 _
                         have hb9 := (hb.alloc hb.size (.cells #[.string s0] 9)).grown hg9 (by have := hb.size; simp; omega) (fun g hg' => (hown.lt g hg').1))
            go_roundw
            case rel => exact ⟨k + 1, by omega, by go_num, by rw [HT2.out, strsV_append, List.length_append]; exact hown9, hb9⟩
            case measure => simp [intOf]; omega
        · obtain rfl : k = L1.length := by omega
          have HLe : Hid (lk = L3) := by show _ = _; rw [← HLk.out, List.take_length, HLK.out]
          rw [HLe.out] at hown ⊢
          have R6 := q6
          have R7 := q7
          replace R1 := (R1.below hb).more hb.size
          replace R2 := (R2.below hb).more hb.size
          replace R3 := (R3.below hb).more hb.size
          replace R5 := (R5.below hb).more hb.size
          replace kX := kX.all hb
          replace kP := kP.all hb
          replace hP := hP.all hb
          replace hB := hB.trans (hb.mono hB.size)
          have R8 := Reads.of_own hown
          clear hb hown q6 q7 r6 r7
          (have p0 := kP.cell 0; have p1 := kP.cell 1; go_wp2_with fail; clear p0 p1)
          refine (refFound_any p s wr hP HC.out).mono ?_
          rintro e w10 ⟨rfl, hb⟩
          rw [HD.out]
          go_upto_region 18 with (fail)
          have hbx := hb.alloc hb.size (.cells #[.string (d).name, .int .i64 (d).kind, .int .i64 (d).frag, .int .i64 (d).at_, .int .i64 (d).size, .int .i64 (d).align] 31)
          have kY0 := Blk.new w10 31 #[.string (d).name, .int .i64 (d).kind, .int .i64 (d).frag, .int .i64 (d).at_, .int .i64 (d).size, .int .i64 (d).align]
          ((try replace R1 := (R1.below hbx).more (hbx).size); (try replace R2 := (R2.below hbx).more (hbx).size); (try replace R3 := (R3.below hbx).more (hbx).size); (try replace R5 := (R5.below hbx).more (hbx).size); (try replace R6 := (R6.below hbx).more (hbx).size); (try replace R7 := (R7.below hbx).more (hbx).size); (try replace R8 := (R8.below hbx).more (hbx).size); (try replace kX := kX.all hbx); (try replace kY := kY.all hbx); replace kP := kP.all hbx; replace hP := hP.all hbx; replace hB := hB.trans ((hbx).mono hB.size))
          obtain ⟨gY, hgY⟩ : ∃ g, g = w10.heap.size := ⟨_, rfl⟩
          obtain ⟨w11, hw11⟩ : ∃ y, y = w10.alloc (.cells #[.string (d).name, .int .i64 (d).kind, .int .i64 (d).frag, .int .i64 (d).at_, .int .i64 (d).size, .int .i64 (d).align] 31) := ⟨_, rfl⟩
          rw [← hgY] at kY0 ⊢
          rw [← hw11] at kY0 kX kP hP hB R1 R2 R3 R5 R6 R7 R8 ⊢
          have kY := kY0
          clear hw11 hgY hbx hb kY0
          have t1 : (x == x) = true := by simp
          have hq : ∀ w, (binOp .eql 31 (.agg #[.string (d).name, .int .i64 (d).kind, .int .i64 (d).frag, .int .i64 (d).at_, .int .i64 (d).size, .int .i64 (d).align]) (.agg #[.string (d).name, .int .i64 (d).kind, .int .i64 (d).frag, .int .i64 (d).at_, .int .i64 (d).size, .int .i64 (d).align])).run Tryd.prog w = .ok (.bool true) w := fun w => (df_eql d d w).trans (by rw [beq_self_eq_true])
          go_wp2_with fail
          refine (equalStrs_any A1 A6 c1 c6 L1 L1 w11 R1 R6 (by omega)).mono ?_
          rintro e w12 ⟨rfl, hb⟩
          rw [beq_self_eq_true]
          ((try replace R1 := (R1.below hb).more (hb).size); (try replace R2 := (R2.below hb).more (hb).size); (try replace R3 := (R3.below hb).more (hb).size); (try replace R5 := (R5.below hb).more (hb).size); (try replace R6 := (R6.below hb).more (hb).size); (try replace R7 := (R7.below hb).more (hb).size); (try replace R8 := (R8.below hb).more (hb).size); (try replace kX := kX.all hb); (try replace kY := kY.all hb); replace kP := kP.all hb; replace hP := hP.all hb; replace hB := hB.trans ((hb).mono hB.size))
          clear hb
          go_wp2_with fail
          refine (equalStrs_any A2 A7 c2 c7 L2 L2 w12 R2 R7 (by omega)).mono ?_
          rintro e w13 ⟨rfl, hb⟩
          rw [beq_self_eq_true]
          ((try replace R1 := (R1.below hb).more (hb).size); (try replace R2 := (R2.below hb).more (hb).size); (try replace R3 := (R3.below hb).more (hb).size); (try replace R5 := (R5.below hb).more (hb).size); (try replace R6 := (R6.below hb).more (hb).size); (try replace R7 := (R7.below hb).more (hb).size); (try replace R8 := (R8.below hb).more (hb).size); (try replace kX := kX.all hb); (try replace kY := kY.all hb); replace kP := kP.all hb; replace hP := hP.all hb; replace hB := hB.trans ((hb).mono hB.size))
          clear hb
          go_wp2_with fail
          refine (equalStrs_any A3 A8 c3 c8 L3 L3 w13 R3 R8 (by omega)).mono ?_
          rintro e w14 ⟨rfl, hb⟩
          rw [beq_self_eq_true]
          ((try replace R1 := (R1.below hb).more (hb).size); (try replace R2 := (R2.below hb).more (hb).size); (try replace R3 := (R3.below hb).more (hb).size); (try replace R5 := (R5.below hb).more (hb).size); (try replace R6 := (R6.below hb).more (hb).size); (try replace R7 := (R7.below hb).more (hb).size); (try replace R8 := (R8.below hb).more (hb).size); (try replace kX := kX.all hb); (try replace kY := kY.all hb); replace kP := kP.all hb; replace hP := hP.all hb; replace hB := hB.trans ((hb).mono hB.size))
          clear hb
          have x0 := kX.cell 0
          have x1 := kX.cell 1
          have x2 := kX.cell 2
          have x3 := kX.cell 3
          have x4 := kX.cell 4
          have x5 := kX.cell 5
          have y0 := kY.cell 0
          have y1 := kY.cell 1
          have y2 := kY.cell 2
          have y3 := kY.cell 3
          have y4 := kY.cell 4
          have y5 := kY.cell 5
          (have p0 := kP.cell 0; have p1 := kP.cell 1; go_wp2_with fail; clear p0 p1)
          refine (refFaults_any p w14 hP HC.out).mono ?_
          rintro e w15 ⟨v, rfl, hown, hb⟩
          rw [HFL.out] at hown
          obtain ⟨A9, c9, rfl, _, _⟩ := own_form hown
          clear x0 x1 x2 x3 x4 x5 y0 y1 y2 y3 y4 y5
          ((try replace R1 := (R1.below hb).more (hb).size); (try replace R2 := (R2.below hb).more (hb).size); (try replace R3 := (R3.below hb).more (hb).size); (try replace R5 := (R5.below hb).more (hb).size); (try replace R6 := (R6.below hb).more (hb).size); (try replace R7 := (R7.below hb).more (hb).size); (try replace R8 := (R8.below hb).more (hb).size); (try replace kX := kX.all hb); (try replace kY := kY.all hb); replace kP := kP.all hb; replace hP := hP.all hb; replace hB := hB.trans ((hb).mono hB.size))
          clear hb
          go_wp2_with fail
          refine (equalFlts_any A5 A9 c5 c9 FL FL w15 R5 (Reads.of_own hown) (by omega)).mono ?_
          rintro e w16 ⟨rfl, hb⟩
          rw [beq_self_eq_true]
          have hBx := hB.trans (hb.mono hB.size)
          go_wp2
          go_ret
          exact ⟨rfl, hBx⟩
  · have HN0 := Lib.hid hc
    have HFP : Hid (findP p.er s = (.zero, ckPart p.er)) := findP_bad hc
    obtain ⟨n, hn⟩ : ∃ n, ckPart p.er = n := ⟨_, rfl⟩
    have HN := Lib.hid hn
    have hn1 : (n != 0) = true := by rw [hn] at hc; simpa using hc
    have hn2 : (n == n) = true := by simp
    clear hc hn
    (have p0 := kP.cell 0; have p1 := kP.cell 1; go_wp2_with fail; clear p0 p1)
    refine (wanted_any p W hP).mono ?_
    (rintro e w1 ⟨v, rfl, hv, _, hb⟩; obtain rfl := hv HN0.out; rw [HN.out]; ((try replace R1 := (R1.below hb).more (hb).size); (try replace R2 := (R2.below hb).more (hb).size); (try replace R3 := (R3.below hb).more (hb).size); (try replace R5 := (R5.below hb).more (hb).size); (try replace R6 := (R6.below hb).more (hb).size); (try replace R7 := (R7.below hb).more (hb).size); (try replace R8 := (R8.below hb).more (hb).size); (try replace kX := kX.all hb); (try replace kY := kY.all hb); replace kP := kP.all hb; replace hP := hP.all hb; replace hB := hB.trans ((hb).mono hB.size)); clear hv hb)
    (have p0 := kP.cell 0; have p1 := kP.cell 1; go_wp2_with fail; clear p0 p1)
    refine (defined_any p w1 hP).mono ?_
    (rintro e w2 ⟨v, rfl, hv, _, hb⟩; obtain rfl := hv HN0.out; rw [HN.out]; ((try replace R1 := (R1.below hb).more (hb).size); (try replace R2 := (R2.below hb).more (hb).size); (try replace R3 := (R3.below hb).more (hb).size); (try replace R5 := (R5.below hb).more (hb).size); (try replace R6 := (R6.below hb).more (hb).size); (try replace R7 := (R7.below hb).more (hb).size); (try replace R8 := (R8.below hb).more (hb).size); (try replace kX := kX.all hb); (try replace kY := kY.all hb); replace kP := kP.all hb; replace hP := hP.all hb; replace hB := hB.trans ((hb).mono hB.size)); clear hv hb)
    (have p0 := kP.cell 0; have p1 := kP.cell 1; go_wp2_with fail; clear p0 p1)
    refine (lacking_any p w2 hP).mono ?_
    (rintro e w3 ⟨v, rfl, hv, _, hb⟩; obtain rfl := hv HN0.out; rw [HN.out]; ((try replace R1 := (R1.below hb).more (hb).size); (try replace R2 := (R2.below hb).more (hb).size); (try replace R3 := (R3.below hb).more (hb).size); (try replace R5 := (R5.below hb).more (hb).size); (try replace R6 := (R6.below hb).more (hb).size); (try replace R7 := (R7.below hb).more (hb).size); (try replace R8 := (R8.below hb).more (hb).size); (try replace kX := kX.all hb); (try replace kY := kY.all hb); replace kP := kP.all hb; replace hP := hP.all hb; replace hB := hB.trans ((hb).mono hB.size)); clear hv hb)
    (have p0 := kP.cell 0; have p1 := kP.cell 1; go_wp2_with fail; clear p0 p1)
    refine (findOut_any p s w3 hP).mono ?_
    rintro e w4 ⟨rfl, hb⟩
    obtain ⟨d, hd⟩ : ∃ d : Df, d = .zero := ⟨_, rfl⟩
    rw [HFP.out, HN.out, ← hd]
    have HD := Lib.hid hd
    clear hd
    go_upto_region 5 with (fail)
    have hbx := hb.alloc hb.size (.cells #[.string (d).name, .int .i64 (d).kind, .int .i64 (d).frag, .int .i64 (d).at_, .int .i64 (d).size, .int .i64 (d).align] 31)
    have kX0 := Blk.new w4 31 #[.string (d).name, .int .i64 (d).kind, .int .i64 (d).frag, .int .i64 (d).at_, .int .i64 (d).size, .int .i64 (d).align]
    ((try replace R1 := (R1.below hbx).more (hbx).size); (try replace R2 := (R2.below hbx).more (hbx).size); (try replace R3 := (R3.below hbx).more (hbx).size); (try replace R5 := (R5.below hbx).more (hbx).size); (try replace R6 := (R6.below hbx).more (hbx).size); (try replace R7 := (R7.below hbx).more (hbx).size); (try replace R8 := (R8.below hbx).more (hbx).size); (try replace kX := kX.all hbx); (try replace kY := kY.all hbx); replace kP := kP.all hbx; replace hP := hP.all hbx; replace hB := hB.trans ((hbx).mono hB.size))
    obtain ⟨gX, hgX⟩ : ∃ g, g = w4.heap.size := ⟨_, rfl⟩
    obtain ⟨w5, hw5⟩ : ∃ y, y = w4.alloc (.cells #[.string (d).name, .int .i64 (d).kind, .int .i64 (d).frag, .int .i64 (d).at_, .int .i64 (d).size, .int .i64 (d).align] 31) := ⟨_, rfl⟩
    rw [← hgX] at kX0 ⊢
    rw [← hw5] at kX0 kP hP hB ⊢
    have kX := kX0
    clear hw5 hgX hbx hb kX0
    (have p0 := kP.cell 0; have p1 := kP.cell 1; go_wp2_with fail; clear p0 p1)
    refine (faults_any p w5 hP).mono ?_
    (rintro e w6 ⟨v, rfl, hv, _, hb⟩; obtain rfl := hv HN0.out; rw [HN.out]; ((try replace R1 := (R1.below hb).more (hb).size); (try replace R2 := (R2.below hb).more (hb).size); (try replace R3 := (R3.below hb).more (hb).size); (try replace R5 := (R5.below hb).more (hb).size); (try replace R6 := (R6.below hb).more (hb).size); (try replace R7 := (R7.below hb).more (hb).size); (try replace R8 := (R8.below hb).more (hb).size); (try replace kX := kX.all hb); (try replace kY := kY.all hb); replace kP := kP.all hb; replace hP := hP.all hb; replace hB := hB.trans ((hb).mono hB.size)); clear hv hb)
    (have p0 := kP.cell 0; have p1 := kP.cell 1; go_wp2_with fail; clear p0 p1)
    refine (refCheck_any p w6 hP).mono ?_
    rintro e w7 ⟨rfl, hb⟩
    rw [HN.out]
    ((try replace R1 := (R1.below hb).more (hb).size); (try replace R2 := (R2.below hb).more (hb).size); (try replace R3 := (R3.below hb).more (hb).size); (try replace R5 := (R5.below hb).more (hb).size); (try replace R6 := (R6.below hb).more (hb).size); (try replace R7 := (R7.below hb).more (hb).size); (try replace R8 := (R8.below hb).more (hb).size); (try replace kX := kX.all hb); (try replace kY := kY.all hb); replace kP := kP.all hb; replace hP := hP.all hb; replace hB := hB.trans ((hb).mono hB.size))
    clear hb
    go_wp2_with fail
    refine (found_any w7).mono ?_
    rintro e w8 ⟨rfl, hb⟩
    ((try replace R1 := (R1.below hb).more (hb).size); (try replace R2 := (R2.below hb).more (hb).size); (try replace R3 := (R3.below hb).more (hb).size); (try replace R5 := (R5.below hb).more (hb).size); (try replace R6 := (R6.below hb).more (hb).size); (try replace R7 := (R7.below hb).more (hb).size); (try replace R8 := (R8.below hb).more (hb).size); (try replace kX := kX.all hb); (try replace kY := kY.all hb); replace kP := kP.all hb; replace hP := hP.all hb; replace hB := hB.trans ((hb).mono hB.size))
    clear hb
    go_wp2_with fail
    refine (found_any w8).mono ?_
    rintro e w9 ⟨rfl, hb⟩
    ((try replace R1 := (R1.below hb).more (hb).size); (try replace R2 := (R2.below hb).more (hb).size); (try replace R3 := (R3.below hb).more (hb).size); (try replace R5 := (R5.below hb).more (hb).size); (try replace R6 := (R6.below hb).more (hb).size); (try replace R7 := (R7.below hb).more (hb).size); (try replace R8 := (R8.below hb).more (hb).size); (try replace kX := kX.all hb); (try replace kY := kY.all hb); replace kP := kP.all hb; replace hP := hP.all hb; replace hB := hB.trans ((hb).mono hB.size))
    clear hb
    have x0 := kX.cell 0
    have x1 := kX.cell 1
    have x2 := kX.cell 2
    have x3 := kX.cell 3
    have x4 := kX.cell 4
    have x5 := kX.cell 5
    have hq : ∀ w, (binOp .eql 31 (.agg #[.string (d).name, .int .i64 (d).kind, .int .i64 (d).frag, .int .i64 (d).at_, .int .i64 (d).size, .int .i64 (d).align]) (.agg #[.string ⟨#[]⟩, .int .i64 0, .int .i64 0, .int .i64 0, .int .i64 0, .int .i64 0])).run Tryd.prog w = .ok (.bool true) w := fun w => (df_eql d .zero w).trans (by rw [HD.out, beq_self_eq_true])
    go_wp2
    go_ret
    exact ⟨rfl, hB⟩
end Go.Proofs.YtokiekachlmigaaDoor
