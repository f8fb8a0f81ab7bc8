/- ropewalkref.GroupsOf: what it computes. -/
import Derived.Test.YtokiekachlmigaaDoorGroupsW
import Derived.Test.YtokiekachlmigaaDoorBC
import Derived.Deep.RegionHeld3
set_option linter.all false
namespace Go.Proofs.YtokiekachlmigaaDoor
open Go.RowKit

theorem strsV_one (l : List ByteArray) : ∀ u ∈ strsV l, u.oneCell' = true := fun u hu => by obtain ⟨s, _, rfl⟩ := List.mem_map.1 hu; rfl
theorem size_nil {s : ByteArray} (h : s.size = 0) : s = ⟨#[]⟩ := by
  obtain ⟨⟨l⟩⟩ := s
  have : l = [] := List.eq_nil_of_length_eq_zero h
  rw [this]

set_option maxHeartbeats 4000000 in
set_option maxRecDepth 100000 in
theorem refGroups_any (p : PtM) (w : World) (h : p.At w w.heap.size) (hs : p.frs.length ≤ 60) :
    Calls Tryd.prog 133 #[.agg #[.slice p.fa p.frs.length p.fc, .slice p.da p.dfs.length p.dc]] w (GroupsIs w (groupsOf p.er.frs)) := by
  obtain ⟨i0, hi, hz0, hz1, hz2⟩ := info_parts Tryd.infoStr
  unfold GroupsIs
  obtain ⟨hf, _, _, _, _⟩ := h
  obtain ⟨frs, dfs, fa, fc, da, dc⟩ := p
  simp only [PtM.er] at *
  have HT : Hid (∀ k x, frs[k]? = some x → groupsOf ((frs.take (k + 1)).map FgM.f) = if x.f.group.size = 0 ∨ x.f.group ∈ groupsOf ((frs.take k).map FgM.f) then groupsOf ((frs.take k).map FgM.f) else groupsOf ((frs.take k).map FgM.f) ++ [x.f.group]) :=
    fun k x hx => by rw [List.take_add_one, List.map_append, hx]; exact groupsOf_snoc _ _
  have HL : Hid (∀ k, (groupsOf ((frs.take k).map FgM.f)).length ≤ frs.length) := fun k => by
    have := groupsOf_len ((frs.take k).map FgM.f)
    rw [List.length_map, List.length_take] at this
    omega
  go_enter Tryd.func133, Tryd.ntmps133
  go_wp2
  have hb0 : Below w.heap.size w (w.alloc (.cells #[.slice fa frs.length fc, .slice da dfs.length dc] 25)) := by (repeat' (first | exact Below.refl _ _ | assumption | refine Below.setCell ?_ (by first | omega | exact Below.size (by assumption) | (simp; done) | (simp; omega)) _ | refine Below.alloc ?_ (by first | omega | exact Below.size (by assumption) | (simp; done) | (simp; omega)) _ | refine Below.drew ?_ | refine below_drewN ?_ _))
  go_loopw [3, 9] (fun z i wr => ∃ (k : Nat) (gs : List ByteArray), k ≤ frs.length ∧ i = .int .i64 k ∧ Hid (gs = groupsOf ((frs.take k).map FgM.f)) ∧ wr.ownsRow w.heap.size 9 1 z gs.length (strsV gs) ∧ Below w.heap.size w wr) (fun _ i _ => frs.length - (intOf i).toNat)
  case atStart => exact ⟨0, [], Nat.zero_le _, rfl, Lib.hid (by simp [groupsOf, groupsFrom]), World.ownsRow_nil _ _ _ _, hb0⟩
  case round =>
    clear hb0
    obtain ⟨k, gs, hk, rfl, hgs, hown, hb⟩ := hrel
    by_cases hlt : k < frs.length
    · obtain ⟨x, hx⟩ : ∃ x, frs[k]? = some x := ⟨_, List.getElem?_eq_getElem hlt⟩
      obtain ⟨b, off, rfl, bl, c0, c1, c2, c3, c4, c5⟩ := fg_get (hf.below hb) hx
      have hN := HT.out k x hx
      rw [← hgs.out] at hN
      have hLn := HL.out k
      rw [← hgs.out] at hLn
      clear hx
      obtain ⟨A1, c1', rfl, hc1, hc2⟩ := own_form hown
      replace hN := Lib.hid hN
      go_upto_region 5 with (fail)
      have kx := Blk.new wr 92 #[.int .i64 x.f.sect, .int .i64 x.f.align, .string x.f.group, .slice x.ba x.f.bs.length x.bc, .int .i64 x.f.size, .slice x.ra x.f.rs.length x.rc]
      have hs1 : Below wr.heap.size wr (wr.alloc (.cells #[.int .i64 x.f.sect, .int .i64 x.f.align, .string x.f.group, .slice x.ba x.f.bs.length x.bc, .int .i64 x.f.size, .slice x.ra x.f.rs.length x.rc] 92)) := by (repeat' (first | exact Below.refl _ _ | assumption | refine Below.setCell ?_ (by first | omega | exact Below.size (by assumption) | (simp; done) | (simp; omega)) _ | refine Below.alloc ?_ (by first | omega | exact Below.size (by assumption) | (simp; done) | (simp; omega)) _ | refine Below.drew ?_ | refine below_drewN ?_ _))
      have hown1 := own_all hown hs1
      have hb1 := hb.trans (hs1.mono hb.size)
      obtain ⟨gx, hgx⟩ : ∃ g, g = wr.heap.size := ⟨_, rfl⟩
      obtain ⟨W1, hW1⟩ : ∃ W, W = wr.alloc (.cells #[.int .i64 x.f.sect, .int .i64 x.f.align, .string x.f.group, .slice x.ba x.f.bs.length x.bc, .int .i64 x.f.size, .slice x.ra x.f.rs.length x.rc] 92) := ⟨_, rfl⟩
      rw [← hgx] at kx ⊢
      rw [← hW1] at kx hs1 hown1 hb1 ⊢
      clear hW1 hgx hs1 hown hb c0 c1 c2 c3 c4 c5
      have x2 := kx.cell 2
      go_cut [19] (fun s wx => s = .bool (!decide (x.f.group ∈ (⟨#[]⟩ :: gs : List ByteArray))) ∧ Blk wx gx 92 #[.int .i64 x.f.sect, .int .i64 x.f.align, .string x.f.group, .slice x.ba x.f.bs.length x.bc, .int .i64 x.f.size, .slice x.ra x.f.rs.length x.rc] ∧ wx.ownsRow w.heap.size 9 1 (.slice A1 gs.length c1') gs.length (strsV gs) ∧ Below w.heap.size w wx)
      case first =>
        refine wp_region_held_drew (S := (fun w' => w'.cell? ⟨gx, 2, none⟩ = some (.string x.f.group))) (by kernel_rfl) ?_ (fun hHeld => ?_)
        focus ((try dsimp only); go_keep)
        (refine wpAnyH_take (i := 1) (oi := { dst := some 14, op := Op.move (Operand.tmp 3), type := 26, pos := "parts.go:265", after := #[], guard := none }) (v := ?_) rfl (by kernel_rfl) (by kernel_rfl) (by kernel_rfl) (fun _ _ _ h => h) (Or.inl ⟨by rfl, ?_⟩) (by assumption) ?_; rotate_left; (focus (intro w hSw; (try dsimp only at hSw); go_simp; (try with_reducible rfl))); (try simp only [Act.put, List.setIfInBounds_toArray, List.set_cons_zero, List.set_cons_succ]))
        (refine wpAnyH_take (i := 3) (oi := { dst := some 16, op := Op.fieldAddr 92 (Operand.tmp 5) 2, type := 0, pos := "parts.go:265", after := #[], guard := none }) (v := ?_) rfl (by kernel_rfl) (by kernel_rfl) (by kernel_rfl) (fun _ _ _ h => h) (Or.inl ⟨by rfl, ?_⟩) (by assumption) ?_; rotate_left; (focus (intro w hSw; (try dsimp only at hSw); go_simp; (try with_reducible rfl))); (try simp only [Act.put, List.setIfInBounds_toArray, List.set_cons_zero, List.set_cons_succ]))
        (refine wpAnyH_take (i := 4) (oi := { dst := some 17, op := Op.load 9 (Operand.tmp 16), type := 9, pos := "parts.go:265", after := #[{ on := 3, ground := Ground.data }], guard := none }) (v := ?_) rfl (by kernel_rfl) (by kernel_rfl) (by kernel_rfl) (fun _ _ _ h => h) (Or.inl ⟨by rfl, ?_⟩) (by assumption) ?_; rotate_left; (focus (intro w hSw; (try dsimp only at hSw); go_simp; (try with_reducible rfl))); (try simp only [Act.put, List.setIfInBounds_toArray, List.set_cons_zero, List.set_cons_succ]))
        (refine wpAnyH_ready (rs := [0]) (by kernel_rfl) (by simp) ?_; refine AllReadyH.cons (o := { dst := some 13, op := Op.buildSlice 26 1 #[(0, Operand.const (Value.string { data := #[] }))], type := 26, pos := "parts.go:265", after := #[], guard := none }) rfl (fun K hK => ?_) AllReadyH.nil; go_simp; refine hK.out _ _ ?_ (fun hHeld => ?_); (focus ((try dsimp only); go_keep)); clear hK K; (try simp only [Act.put, List.setIfInBounds_toArray, List.set_cons_zero, List.set_cons_succ]))
        have hE := Blk.new W1.drew 9 #[.string ⟨#[]⟩]
        have hEo := own_of_blk hE (base := W1.heap.size) (size := 1) (n := 1) (Nat.le_refl _) rfl (by decide)
        have hown2 : (W1.drew.alloc (.cells #[.string ⟨#[]⟩] 9)).ownsRow w.heap.size 9 1 (.slice A1 gs.length c1') gs.length (strsV gs) := hown1.drew.alloc _
        (refine wpAnyH_ready (rs := [2]) (by kernel_rfl) (by simp) ?_; refine AllReadyH.cons (o := { dst := some 15, op := Op.call { callee := Callee.builtin Builtin.append, args := #[Operand.tmp 13, Operand.tmp 14], argTypes := #[26, 26] }, type := 26, pos := "parts.go:265", after := #[{ on := 0, ground := Ground.data }, { on := 1, ground := Ground.data }], guard := none }) rfl (fun K hK => ?_) AllReadyH.nil)
        refine step_append_any _ rfl (.tmp 13) (.tmp 14) 26 rfl W1.heap.size 9 i0 (.string ⟨#[]⟩) 1 16 Tryd.underlying26 hi hz0 hz1 hz2 rfl (by decide) _ _ _ rfl hEo _ A1 gs.length c1' (strsV gs) rfl (Reads.of_own hown2) (strsV_one gs) ?c2 ?c3 ?c4 ?_
        case c2 => unfold maxLen; omega
        case c3 => omega
        case c4 => simp
        intro v' w2 hown3 hg3 _
        have hb2 : Below W1.heap.size W1 w2 := (((Below.refl _ W1).drew).alloc (Nat.le_refl _) (.cells #[.string ⟨#[]⟩] 9)).grown hg3 (by simp) (fun g hg => (hEo.lt g hg).1)
        have kx2 := kx.all hb2
        have hown4 := own_all hown1 hb2
        have x2' := kx2.cell 2
        refine hK.out _ _ x2' (fun hHeld => ?_)
        (clear hK K; (try simp only [Act.put, List.setIfInBounds_toArray, List.set_cons_zero, List.set_cons_succ]))
        obtain ⟨A2, c2', rfl, hc3, hc4⟩ := own_form hown3
        have hr3 : Reads w2 w2.heap.size 1 A2 (1 + gs.length) (strsV (⟨#[]⟩ :: gs)) := Reads.of_own hown3
        have HC := containsStr_any A2 c2' (⟨#[]⟩ :: gs) x.f.group w2 (by rw [List.length_cons, Nat.add_comm]; exact hr3) (by rw [List.length_cons]; omega)
        rw [List.length_cons, Nat.add_comm] at HC
        (refine wpAnyH_ready (rs := [5]) (by kernel_rfl) (by simp) ?_; refine AllReadyH.cons (o := { dst := some 18, op := Op.call { callee := Callee.value (Operand.func 18), args := #[Operand.tmp 15, Operand.tmp 17], argTypes := #[26, 9] }, type := 4, pos := "parts.go:265", after := #[{ on := 2, ground := Ground.data }, { on := 4, ground := Ground.data }, { on := 2, ground := Ground.chain }], guard := none }) rfl (fun K hK => ?_) AllReadyH.nil)
        go_simp
        (go_at_call 18; refine HC.mono ?_; rintro e w3 ⟨rfl, rfl⟩)
        go_wp2_with fail
        refine hK.out _ _ x2' (fun hHeld => ?_)
        (clear hK K; (try simp only [Act.put, List.setIfInBounds_toArray, List.set_cons_zero, List.set_cons_succ]))
        (refine wpAnyH_take (i := 6) (oi := { dst := some 19, op := Op.unOp UnOp.not 4 (Operand.tmp 18), type := 4, pos := "parts.go:265", after := #[{ on := 5, ground := Ground.data }], guard := none }) (v := ?_) rfl (by kernel_rfl) (by kernel_rfl) (by kernel_rfl) (fun _ _ _ h => h) (Or.inl ⟨by rfl, ?_⟩) (by assumption) ?_; rotate_left; (focus (intro w hSw; (try dsimp only at hSw); go_simp; (try with_reducible rfl))); (try simp only [Act.put, List.setIfInBounds_toArray, List.set_cons_zero, List.set_cons_succ]))
        refine wpAnyH_done (by kernel_rfl) ?_ _
        go_wp2
        go_meet
        exact ⟨by simp, kx2, hown4, hb1.trans (hb2.mono hb1.size)⟩
      case rest =>
        clear hown1 hb1 kx x2
        obtain ⟨rfl, kx, hown, hb⟩ := hcut
        have x2 := kx.cell 2
        by_cases hm : x.f.group ∈ (⟨#[]⟩ :: gs : List ByteArray)
        · have hmm : x.f.group.size = 0 ∨ x.f.group ∈ gs := by
            rcases List.mem_cons.1 hm with h | h
            · exact .inl (by rw [h]; rfl)
            · exact .inr h
          have hN := hN.out
          rw [if_pos hmm] at hN
          replace hN := Lib.hid hN
          rw [decide_eq_true hm]
          clear hm hmm
          go_wp2
          go_roundw
          case rel => exact ⟨k + 1, gs, by omega, by go_num, Lib.hid (by rw [hN.out]), hown, hb⟩
          case measure => simp [intOf]; omega
        · have hmm : ¬ (x.f.group.size = 0 ∨ x.f.group ∈ gs) := fun h => hm (h.elim (fun h => List.mem_cons.2 (.inl (size_nil h))) (fun h => List.mem_cons.2 (.inr h)))
          have hN := hN.out
          rw [if_neg hmm] at hN
          replace hN := Lib.hid hN
          rw [decide_eq_false hm]
          clear hm hmm
          go_wp2_with (at_builtin
                       refine wpList_append_own _ rfl (.tmp 20) (.tmp 23) 26 rfl w.heap.size 9 i0 (.string ⟨#[]⟩) 1 16 Tryd.underlying26 hi hz0 hz1 hz2 rfl (by decide) _ _ _ rfl (hown.alloc _) ⟨_, 0, none⟩ 1 1 [.string x.f.group] rfl rfl ?c1 ?c2 ?c3 ?c4 ?c5 ?_
                       case c1 => exact one_cell
                       case c2 => intro u hu; simp at hu; subst hu; rfl
                       case c3 => unfold maxLen; omega
                       case c4 => omega
                       case c5 => have := hb.size; simp; omega
                       intro v' w3 hown3 hg3 _
                       obtain ⟨hp3, hz3⟩ := own_push hown hg3 (by have := hb.size; simp; omega)
                       have RB : Below w.heap.size w w3 := hb.trans hp3
                       clear hp3 hg3 hown)
          go_roundw
          case rel => exact ⟨k + 1, gs ++ [x.f.group], by omega, by go_num, Lib.hid (by rw [hN.out]), by rw [strsV_append, List.length_append]; exact hown3, RB⟩
          case measure => simp [intOf]; omega
    · obtain rfl : k = frs.length := by omega
      have hG : Hid (gs = groupsOf (frs.map FgM.f)) := by have := hgs.out; rw [List.take_length] at this; exact this
      go_wp2
      go_ret
      exact ⟨_, rfl, by rw [← hG.out]; exact hown, hb⟩
end Go.Proofs.YtokiekachlmigaaDoor
