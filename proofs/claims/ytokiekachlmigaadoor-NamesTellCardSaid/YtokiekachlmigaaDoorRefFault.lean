/- ropewalkref.FaultsOf: what it computes. -/
import Derived.Test.YtokiekachlmigaaDoorRefSet
import Derived.Test.YtokiekachlmigaaDoorRefFound
import Derived.Test.YtokiekachlmigaaDoorFaultW
import Derived.Test.YtokiekachlmigaaDoorLackW
set_option linter.all false
namespace Go.Proofs.YtokiekachlmigaaDoor
open Go.RowKit Go.Maps
set_option maxRecDepth 100000

set_option maxHeartbeats 16000000 in
theorem refFaults_any (p : PtM) (w : World) (h : p.At w w.heap.size) (hc : ckPart p.er = 0) :
    Calls Tryd.prog 22 #[.agg #[.slice p.fa p.frs.length p.fc, .slice p.da p.dfs.length p.dc]] w
      fun e w' => ∃ v, e = .returned v ∧ w'.ownsRow w.heap.size 44 4 v (faultsP p.er).length (fltsV (faultsP p.er)) ∧ Below w.heap.size w w' := by
  have hmm := @run_makeMap Tryd.prog
  obtain ⟨i0, hi, hz0, hz1, hz2⟩ := info_parts Tryd.infoStr
  obtain ⟨i1, hi1, hw0, hw1, hw2⟩ := info_parts Tryd.infoFlt
  have HC := Lib.hid hc
  have wl := wanted_len hc
  have dl := defined_len hc
  have HWS : Hid (∀ s ∈ wantedP p.er, s.size ≤ 8) := fun s hs => wanted_short hc hs
  have HDS : Hid (∀ s ∈ definedP p.er, s.size ≤ 8) := fun s hs => defined_short hc hs
  have HF : Hid (faultsP p.er = (setS (wantedP p.er ++ definedP p.er)).filterMap (fltOf p.dfs)) := rfl
  obtain ⟨L1, hL1⟩ : ∃ L, wantedP p.er = L := ⟨_, rfl⟩
  obtain ⟨L2, hL2⟩ : ∃ L, definedP p.er = L := ⟨_, rfl⟩
  have HL1 := Lib.hid hL1
  have HL2 := Lib.hid hL2
  rw [hL1] at HWS HF wl
  rw [hL2] at HDS HF dl
  clear hL1 hL2 hc
  have kP := (Blk.new w 25 #[.slice p.fa p.frs.length p.fc, .slice p.da p.dfs.length p.dc]).alloc (.map #[] 0)
  have hb0 : Below w.heap.size w (w.alloc (.cells #[.slice (p).fa (p).frs.length (p).fc, .slice (p).da (p).dfs.length (p).dc] 25)) := by (repeat' (first | exact Below.refl _ _ | assumption | refine Below.setCell ?_ (by first | omega | exact Below.size (by assumption) | (simp; done) | (simp; omega)) _ | refine Below.alloc ?_ (by first | omega | exact Below.size (by assumption) | (simp; done) | (simp; omega)) _ | refine Below.drew ?_ | refine below_drewN ?_ _))
  have hS0 := SetT.new (w.alloc (.cells #[.slice (p).fa (p).frs.length (p).fc, .slice (p).da (p).dfs.length (p).dc] 25))
  have hb1 := hb0.alloc hb0.size (.map #[] 0)
  rw [show (w.alloc (.cells #[.slice (p).fa (p).frs.length (p).fc, .slice (p).da (p).dfs.length (p).dc] 25)).heap.size = w.heap.size + 1 by simp] at hS0
  go_enter Tryd.func22, Tryd.ntmps22
  go_upto_region 2 with (fail)
  obtain ⟨W, hW⟩ : ∃ y, y = (w.alloc (.cells #[.slice (p).fa (p).frs.length (p).fc, .slice (p).da (p).dfs.length (p).dc] 25)).alloc (.map #[] 0) := ⟨_, rfl⟩
  obtain ⟨g, hg⟩ : ∃ g, g = w.heap.size + 1 := ⟨_, rfl⟩
  obtain ⟨gP, hgP⟩ : ∃ g, g = w.heap.size := ⟨_, rfl⟩
  have hg0 : w.heap.size ≤ g := by omega
  rw [← hg] at hS0 ⊢
  rw [← hgP] at kP ⊢
  rw [← hW] at kP hb1 hS0 ⊢
  have hP := h.keep hb1 hb1.size
  clear hW hg hgP hb0 hmm
  have hgW := hS0.lt
  go_cut [16, 17, 18] (fun s t u wx => ∃ (A : Option Addr) (c : Nat), s = .slice A (L1 ++ L2).length c ∧ t = .int .i64 ((L1 ++ L2).length : Int) ∧ u = .int .i64 0 ∧ wx.ownsRow W.heap.size 9 1 (.slice A (L1 ++ L2).length c) (L1 ++ L2).length (strsV (L1 ++ L2)) ∧ SetT wx g 0 [] ∧ Blk wx gP 25 #[.slice p.fa p.frs.length p.fc, .slice p.da p.dfs.length p.dc] ∧ W.heap.size ≤ wx.heap.size ∧ Below w.heap.size w wx)
  case first =>
    have hS : Hid (∀ w', Below W.heap.size W w' → (w'.cell? ⟨gP, 0, none⟩ = some (.slice p.fa p.frs.length p.fc) ∧ w'.cell? ⟨gP, 1, none⟩ = some (.slice p.da p.dfs.length p.dc))) :=
      fun w' hx => ⟨(kP.all hx).cell 0, (kP.all hx).cell 1⟩
    have hbv := (Below.refl W.heap.size W).drew
    refine wp_region_late (S := (fun w' => w'.cell? ⟨gP, 0, none⟩ = some (.slice p.fa p.frs.length p.fc) ∧ w'.cell? ⟨gP, 1, none⟩ = some (.slice p.da p.dfs.length p.dc))) [] (by kernel_rfl) (hS.out _ hbv) (fun hHeld => ?_)
    obtain ⟨wv, hwv⟩ : ∃ x, x = W.drew := ⟨_, rfl⟩
    rw [← hwv] at hbv hHeld ⊢
    clear hwv
    (refine wpAnyLT_take (i := 0) (oi := { dst := some 12, op := Op.load 25 (Operand.tmp 1), type := 25, pos := "parts.go:409", after := #[], guard := none }) (v := ?_) rfl (by kernel_rfl) (by kernel_rfl) (by kernel_rfl) (fun _ _ _ h => h) (Or.inl ⟨by rfl, ?_⟩) (by assumption) (by kernel_rfl) (by rfl) (by kernel_rfl) ?_; rotate_left; (focus (intro w hSw; (try dsimp only at hSw); go_simp; (try with_reducible rfl))); (try simp only [Act.put, List.setIfInBounds_toArray, List.set_cons_zero, List.set_cons_succ]))
    (refine wpAnyLT_take (i := 2) (oi := { dst := some 14, op := Op.load 25 (Operand.tmp 1), type := 25, pos := "parts.go:409", after := #[], guard := none }) (v := ?_) rfl (by kernel_rfl) (by kernel_rfl) (by kernel_rfl) (fun _ _ _ h => h) (Or.inl ⟨by rfl, ?_⟩) (by assumption) (by kernel_rfl) (by rfl) (by kernel_rfl) ?_; rotate_left; (focus (intro w hSw; (try dsimp only at hSw); go_simp; (try with_reducible rfl))); (try simp only [Act.put, List.setIfInBounds_toArray, List.set_cons_zero, List.set_cons_succ]))
    (refine wpAnyLT_take (i := 6) (oi := { dst := some 18, op := Op.move (Operand.const (Value.int IntKind.i64 0)), type := 3, pos := "parts.go:409", after := #[], guard := none }) (v := ?_) rfl (by kernel_rfl) (by kernel_rfl) (by kernel_rfl) (fun _ _ _ h => h) (Or.inl ⟨by rfl, ?_⟩) (by assumption) (by kernel_rfl) (by rfl) (by kernel_rfl) ?_; rotate_left; (focus (intro w hSw; (try dsimp only at hSw); go_simp; (try with_reducible rfl))); (try simp only [Act.put, List.setIfInBounds_toArray, List.set_cons_zero, List.set_cons_succ]))
    (refine wpAnyL_ready (rs := [1]) (by kernel_rfl) (by simp) ?_; refine List.forall_mem_cons.2 ⟨?_, fun _ h => by cases h⟩)
    (refine stepL (o := { dst := some 13, op := Op.call { callee := Callee.value (Operand.func 16), args := #[Operand.tmp 12], argTypes := #[25] }, type := 26, pos := "parts.go:409", after := #[{ on := 0, ground := Ground.data }], guard := none }) rfl (fun K hK => ?_); (try go_simp))
    (go_at_call 16; refine (wantedBy_any p wv (hP.all hbv) HC.out).mono ?_; rintro e wa ⟨v1, rfl, oa, hq⟩; rw [HL1.out] at oa; have hba := hbv.trans (hq.mono hbv.size); replace oa := oa.mono (base' := W.heap.size) hbv.size; obtain ⟨A1, c1, rfl, _, _⟩ := own_form oa)
    (go_wp2_with fail; refine hK.out _ _ (hS.out _ hba) (fun hHeld => ?_); (clear hK K; (try simp only [Act.put, List.setIfInBounds_toArray, List.set_cons_zero, List.set_cons_succ])))
    clear hq
    (refine wpAnyL_ready (rs := [3]) (by kernel_rfl) (by simp) ?_; refine List.forall_mem_cons.2 ⟨?_, fun _ h => by cases h⟩)
    (refine stepL (o := { dst := some 15, op := Op.call { callee := Callee.value (Operand.func 17), args := #[Operand.tmp 14], argTypes := #[25] }, type := 26, pos := "parts.go:409", after := #[{ on := 2, ground := Ground.data }, { on := 1, ground := Ground.chain }], guard := none }) rfl (fun K hK => ?_); (try go_simp))
    (go_at_call 17; refine (definedBy_any p wa (hP.all hba) HC.out).mono ?_; rintro e wb ⟨v2, rfl, o2, hq⟩; rw [HL2.out] at o2; have hb2 := hba.trans (hq.mono hba.size); replace o2 := o2.mono (base' := W.heap.size) hba.size; obtain ⟨A2, c2, rfl, _, _⟩ := own_form o2)
    have o1 := own_all oa hq
    clear oa hq
    (go_wp2_with fail; refine hK.out _ _ (hS.out _ hb2) (fun hHeld => ?_); (clear hK K; (try simp only [Act.put, List.setIfInBounds_toArray, List.set_cons_zero, List.set_cons_succ])))
    (refine wpAnyL_ready (rs := [4]) (by kernel_rfl) (by simp) ?_; refine List.forall_mem_cons.2 ⟨?_, fun _ h => by cases h⟩)
    (refine stepL (o := { dst := some 16, op := Op.call { callee := Callee.builtin Builtin.append, args := #[Operand.tmp 13, Operand.tmp 15], argTypes := #[26, 26] }, type := 26, pos := "parts.go:409", after := #[{ on := 1, ground := Ground.data }, { on := 3, ground := Ground.data }, { on := 3, ground := Ground.chain }], guard := none }) rfl (fun K hK => ?_); refine step_append_any _ rfl (.tmp 13) (.tmp 15) 26 rfl W.heap.size 9 i0 (.string ⟨#[]⟩) 1 16 Tryd.underlying26 hi hz0 hz1 hz2 rfl (by decide) _ _ _ rfl o1 _ A2 L2.length c2 (strsV L2) rfl (Reads.of_own o2) (strs_one _) ?c2 ?c3 ?c4 ?_; (case c2 => unfold maxLen; omega); (case c3 => omega); (case c4 => exact hb2.size); intro v3 w3 hown3 hg3 _; have hb3 := hb2.grown hg3 hb2.size (fun j hj => (o1.lt j hj).1); have kP3 := (kP.all hb2).grown hg3 (own_blk_ne o1 (kP.all hb2) (by decide)).symm; refine hK.out _ _ ⟨kP3.cell 0, kP3.cell 1⟩ (fun hHeld => ?_); (clear hK K; (try simp only [Act.put, List.setIfInBounds_toArray, List.set_cons_zero, List.set_cons_succ])))
    obtain ⟨A3, c3, rfl, _, _⟩ := own_form hown3
    (refine wpAnyLT_take (i := 5) (oi := { dst := some 17, op := Op.call { callee := Callee.builtin Builtin.len, args := #[Operand.tmp 16], argTypes := #[26] }, type := 3, pos := "parts.go:409", after := #[{ on := 4, ground := Ground.data }], guard := none }) (v := ?_) rfl (by kernel_rfl) (by kernel_rfl) (by kernel_rfl) (fun _ _ _ h => h) (Or.inl ⟨by rfl, ?_⟩) (by assumption) (by kernel_rfl) (by rfl) (by kernel_rfl) ?_; rotate_left; (focus (intro w hSw; (try dsimp only at hSw); go_simp; (try with_reducible rfl))); (try simp only [Act.put, List.setIfInBounds_toArray, List.set_cons_zero, List.set_cons_succ]))
    refine wpAnyL_done (by kernel_rfl) ?_ _
    have hfin : w3.ownsRow W.heap.size 9 1 (.slice A3 (L1 ++ L2).length c3) (L1 ++ L2).length (strsV (L1 ++ L2)) := by rw [strsV_append, List.length_append]; exact hown3
    have hSn := (hS0.all hb2).kept hg3 (row_ne_low o1 hgW)
    have hbz := hb1.trans (hb3.mono hb1.size)
    have hz3 := hb3.size
    clear hHeld hS
    go_wp2
    go_meet
    exact ⟨A3, c3, by rw [List.length_append], by rw [List.length_append]; simp, rfl, hfin, hSn, kP3, hz3, hbz⟩
  case rest =>
    obtain ⟨A3, c3, rfl, rfl, rfl, hLL, hSet, kP3, hWz, hb3⟩ := hcut
    have hLLl : (L1 ++ L2).length ≤ 540 := by rw [List.length_append]; omega
    have HSZ : Hid (∀ s ∈ L1 ++ L2, s.size ≤ 8) := fun s hs => by
      rcases List.mem_append.1 hs with hs | hs
      · exact HWS.out s hs
      · exact HDS.out s hs
    obtain ⟨LL, hLe⟩ : ∃ L, L1 ++ L2 = L := ⟨_, rfl⟩
    rw [hLe] at hLL hLLl HSZ HF ⊢
    clear hLe HWS HDS HL1 HL2 wl dl hS0 kP hb1 hP
    go_wp2_with fail
    go_loopw [18] (fun i wr => ∃ (k : Nat) (S : List ByteArray), k ≤ LL.length ∧ i = .int .i64 k ∧ SetT wr g k S ∧ Hid (∀ x, x ∈ S ↔ x ∈ LL.take k) ∧ wr.ownsRow W.heap.size 9 1 (.slice A3 LL.length c3) LL.length (strsV LL) ∧ Blk wr gP 25 #[.slice p.fa p.frs.length p.fc, .slice p.da p.dfs.length p.dc] ∧ W.heap.size ≤ wr.heap.size ∧ Below w.heap.size w wr) (fun i _ => LL.length - (intOf i).toNat)
    case atStart => exact ⟨0, [], Nat.zero_le _, rfl, hSet, Lib.hid (by simp), hLL, kP3, hWz, hb3⟩
    case round =>
      clear hSet hLL kP3 hWz hb3
      obtain ⟨k, S, hk, rfl, hset, hS, hLL, kP, hWz, hb⟩ := hrel
      by_cases hlt : k < LL.length
      · obtain ⟨s, hs⟩ : ∃ s, LL[k]? = some s := ⟨_, List.getElem?_eq_getElem hlt⟩
        have hss := HSZ.out s (List.mem_of_getElem? hs)
        obtain ⟨b, off, hA, c0⟩ := str_get (Reads.of_own hLL) hs
        have HM : Hid (∀ x, x ∈ s :: S ↔ x ∈ LL.take (k + 1)) := fun x => by
          rw [List.take_add_one, hs, List.mem_append, List.mem_cons, hS.out x]
          simp [or_comm]
        have i1 : (k : Int) < (LL.length : Int) := by omega
        subst hA
        clear hs
        go_wp2_with (at_mapUpdate; refine wpList_setPutT _ rfl _ _ _ rfl g k _ hset rfl (by omega) s rfl rfl (by omega) ?_; intro w3 hs3 hg3)
        have hLL2 := hLL.kept hg3 (.inr (fun e => by
          obtain ⟨D, ⟨es, clock, hbb, _⟩, _⟩ := hset
          rcases hLL.2 with ⟨h0, _⟩ | ⟨g', cap, cur, h0, _, hb', _⟩
          · cases h0
          · rw [h0] at e
            simp only [Value.ownBlock, Option.some.injEq] at e
            subst e
            rw [hbb] at hb'
            cases hb'))
        have kP2 := kP.grown hg3 (fun e => by
          obtain ⟨D, ⟨es, clock, hbb, _⟩, _⟩ := hset
          injection e with e
          subst e
          have hk := kP
          unfold Blk at hk
          rw [hbb] at hk
          cases hk)
        have hb2 := hb.grown hg3 hb.size (fun j hj => by cases hj; exact hg0)
        have hWz2 := Nat.le_trans hWz hg3.size
        clear hLL hset kP hb hg3 c0
        go_roundw
        case rel => exact ⟨k + 1, s :: S, by omega, by go_num, hs3, HM, hLL2, kP2, hWz2, hb2⟩
        case measure => simp [intOf]; omega
      · obtain rfl : k = LL.length := by omega
        have HE : Hid (setS S = setS LL) := setS_congr fun x => by rw [hS.out x, List.take_length]
        have hU : (setS LL).length ≤ 540 := Nat.le_trans (setS_len _) hLLl
        go_wp2_with fail
        refine (refSet_any wr hset (by omega)).mono ?_
        rintro e w5 ⟨v5, rfl, hown5, hb5'⟩
        rw [HE.out] at hown5
        have kP5 := kP.all hb5'
        have hb6 := hb.trans (hb5'.mono hb.size)
        replace hown5 := hown5.mono (base' := w.heap.size) hb.size
        obtain ⟨U, hUU⟩ : ∃ U, setS LL = U := ⟨_, rfl⟩
        rw [hUU] at HF hU hown5
        obtain ⟨A5, c5, rfl, hc5, hc6⟩ := own_form hown5
        clear hUU hLLl hset hLL kP hWz hb hb5' hS HE HSZ hgW
        go_wp2_with fail
        go_loopw [6, 28] (fun v i wr => ∃ (k : Nat) (out : List Flt), k ≤ U.length ∧ i = .int .i64 k ∧ Hid (out = (U.take k).filterMap (fltOf p.dfs)) ∧ out.length ≤ k ∧ wr.ownsRow w.heap.size 44 4 v out.length (fltsV out) ∧ wr.ownsRow w.heap.size 9 1 (.slice A5 U.length c5) U.length (strsV U) ∧
          Blk wr gP 25 #[.slice p.fa p.frs.length p.fc, .slice p.da p.dfs.length p.dc] ∧ Below w.heap.size w wr) (fun _ i _ => U.length - (intOf i).toNat)
        case atStart => exact ⟨0, [], Nat.zero_le _, rfl, Lib.hid (by simp), Nat.zero_le _, World.ownsRow_nil _ _ _ _, hown5, kP5, hb6⟩
        case round =>
          clear hown5 kP5 hb6
          obtain ⟨k, out, hk, rfl, ho, hol, hOut, hStr, kP, hb⟩ := hrel
          obtain ⟨A6, c6, rfl, hc7, hc8⟩ := own_form hOut
          by_cases hlt : k < U.length
          · obtain ⟨s, hs⟩ : ∃ s, U[k]? = some s := ⟨_, List.getElem?_eq_getElem hlt⟩
            obtain ⟨b, off, hA5, c0⟩ := str_get (Reads.of_own hStr) hs
            have HN : Hid ((U.take (k + 1)).filterMap (fltOf p.dfs) = out ++ (fltOf p.dfs s).toList) := by
              show _ = _
              rw [List.take_add_one, hs, List.filterMap_append, ← ho.out]
              cases hf : fltOf p.dfs s <;> simp [hf]
            subst hA5
            have p0 := kP.cell 0
            have p1 := kP.cell 1
            clear hs ho
            go_wp2_with fail
            refine (refFound_any p s wr (h.keep hb hb.size) HC.out).mono ?_
            rintro e w7 ⟨rfl, hs7⟩
            obtain ⟨⟨d, x⟩, hd⟩ : ∃ r, findL p.dfs s = r := ⟨_, rfl⟩
            have HX : Hid (fltOf p.dfs s = if x = 0 then none else some ⟨x, s⟩) := by show _ = _; unfold fltOf; rw [hd]
            rw [hd]
            clear hd
            have hOut7 := own_all hOut hs7
            have hStr7 := own_all hStr hs7
            have kP7 := kP.all hs7
            have hb7 := hb.trans (hs7.mono hb.size)
            clear hOut hStr kP hb hs7 p0 p1 c0
            by_cases hx : x = 0
            · have HO : Hid (out = (U.take (k + 1)).filterMap (fltOf p.dfs)) := by show _ = _; rw [HN.out, HX.out, if_pos hx]; simp
              subst hx
              clear HN HX
              go_wp2
              go_roundw
              case rel => exact ⟨k + 1, out, by omega, by go_num, HO, by omega, hOut7.alloc _, hStr7.alloc _, kP7.alloc _, hb7.alloc hb7.size _⟩
              case measure => simp [intOf]; omega
            · have HO : Hid (out ++ [⟨x, s⟩] = (U.take (k + 1)).filterMap (fltOf p.dfs)) := by show _ = _; rw [HN.out, HX.out, if_neg hx]; rfl
              have hx0 : (x != 0) = true := by simpa using hx
              clear HN HX hx
              go_upto_region 13 with (fail)
              have hOut9 := hOut7.alloc (.cells #[.string (d).name, .int .i64 (d).kind, .int .i64 (d).frag, .int .i64 (d).at_, .int .i64 (d).size, .int .i64 (d).align] 31)
              have hStr9 := hStr7.alloc (.cells #[.string (d).name, .int .i64 (d).kind, .int .i64 (d).frag, .int .i64 (d).at_, .int .i64 (d).size, .int .i64 (d).align] 31)
              have kP9 := kP7.alloc (.cells #[.string (d).name, .int .i64 (d).kind, .int .i64 (d).frag, .int .i64 (d).at_, .int .i64 (d).size, .int .i64 (d).align] 31)
              have hb9 := hb7.alloc hb7.size (.cells #[.string (d).name, .int .i64 (d).kind, .int .i64 (d).frag, .int .i64 (d).at_, .int .i64 (d).size, .int .i64 (d).align] 31)
              obtain ⟨W9, hW9⟩ : ∃ W, W = w7.alloc (.cells #[.string (d).name, .int .i64 (d).kind, .int .i64 (d).frag, .int .i64 (d).at_, .int .i64 (d).size, .int .i64 (d).align] 31) := ⟨_, rfl⟩
              rw [← hW9] at hOut9 hStr9 kP9 hb9 ⊢
              clear hW9 hOut7 hStr7 kP7 hb7
              go_wp2_with (at_builtin
                           refine wpList_append_own _ rfl (.tmp 40) (.tmp 44) 34 rfl w.heap.size 44 i1 _ 4 40 Tryd.underlying34 hi1 hw0 hw1 hw2 rfl (by decide) _ _ _ rfl (hOut9.alloc _) ⟨W9.heap.size, 0, none⟩ 1 1 [.int .i64 (x), .string (s), .int .i64 0, .int .i64 0] rfl rfl ?c1 ?c2 ?c3 ?c4 ?c5 ?_
                           case c1 => exact fun j u hu => cells_new j u hu
                           case c2 => exact flt_one ⟨x, s⟩
                           case c3 => unfold maxLen; omega
                           case c4 => omega
                           case c5 => have := hb9.size; simp; omega
                           intro v8 w8 hown8 hg8 _
                           have hO8 : w8.ownsRow w.heap.size 44 4 v8 (out ++ [(⟨x, s⟩ : Flt)]).length (fltsV (out ++ [⟨x, s⟩])) := by rw [fltsV_append, List.length_append]; exact hown8
                           have hb8 : Below w.heap.size w w8 := (hb9.alloc hb9.size _).grown hg8 (by have := hb9.size; simp; omega) (fun g hg' => (hOut9.lt g hg').1)
                           have hStr8 := own_kept (hStr9.alloc _) hg8 (own_row_ne hStr9 hOut9 (by decide))
                           have kP8 := (kP9.alloc _).grown hg8 (own_blk_ne hOut9 kP9 (by decide)).symm
                           clear hg8 hown8 hOut9 hStr9 kP9 hb9)
              go_roundw
              case rel => exact ⟨k + 1, out ++ [⟨x, s⟩], by omega, by go_num, HO, by rw [List.length_append]; show out.length + 1 ≤ _; omega, hO8, hStr8, kP8, hb8⟩
              case measure => simp [intOf]; omega
          · obtain rfl : k = U.length := by omega
            have HO : Hid (out = faultsP p.er) := by
              have := ho.out
              rw [List.take_length] at this
              exact this.trans HF.out.symm
            go_wp2
            go_ret
            exact ⟨_, rfl, by rw [← HO.out]; exact hOut, hb⟩
end Go.Proofs.YtokiekachlmigaaDoor
