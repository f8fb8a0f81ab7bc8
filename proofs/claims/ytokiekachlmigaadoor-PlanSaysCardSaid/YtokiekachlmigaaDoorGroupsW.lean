/- part.groups, Groups: what they compute. -/
import Derived.Test.YtokiekachlmigaaDoorIndexS
import Derived.Test.YtokiekachlmigaaDoorBC
import Derived.Test.YtokiekachlmigaaDoorApp
import Derived.Test.YtokiekachlmigaaDoorBA
import Derived.Test.YtokiekachlmigaaDoorCheckW
set_option linter.all false
namespace Go.Proofs.YtokiekachlmigaaDoor
open Go.RowKit

theorem Tryd.infoStr : (Tryd.prog.info? 9).map (fun i => (i.zero, i.size, i.bytes)) = some (some (.string ⟨#[]⟩), 1, 16) := by kernel_rfl
theorem one_cell3 {w : World} {o : Obj} {u : Value} {t : TypeId} (j : Nat) (u' : Value) (h : [u][j]? = some u') : ((w.alloc o).alloc (.cells #[u] t)).cell? ((⟨w.heap.size + 1, 0, none⟩ : Addr).add j) = some u' := by
  have := one_cell (w := w.alloc o) (t := t) j u' h
  simpa using this
theorem groupsOf_snoc (c : List Frg) (f : Frg) : groupsOf (c ++ [f]) = if f.group.size = 0 ∨ f.group ∈ groupsOf c then groupsOf c else groupsOf c ++ [f.group] := by
  unfold groupsOf; rw [groupsFrom_append]; rfl
theorem groupsFrom_len (l : List ByteArray) (c : List Frg) : (groupsFrom l c).length ≤ l.length + c.length := by
  induction c generalizing l with
  | nil => simp [groupsFrom]
  | cons f r ih =>
    rw [groupsFrom]
    refine Nat.le_trans (ih _) ?_
    split <;> simp <;> omega
theorem groupsOf_len (c : List Frg) : (groupsOf c).length ≤ c.length := by have := groupsFrom_len [] c; simpa [groupsOf] using this

def GroupsIs (w : World) (l : List ByteArray) (e : Ending) (w' : World) : Prop := ∃ v, e = .returned v ∧ w'.ownsRow w.heap.size 9 1 v l.length (strsV l) ∧ Below w.heap.size w w'

set_option maxHeartbeats 2000000 in
theorem groups_any (p : PtM) (w : World) (h : p.At w w.heap.size) (hs : p.frs.length ≤ 60) :
    Calls Tryd.prog 130 #[.agg #[.slice p.fa p.frs.length p.fc, .slice p.da p.dfs.length p.dc]] w (GroupsIs w (groupsOf p.er.frs)) := by
  obtain ⟨i0, hi, hz0, hz1, hz2⟩ := info_parts Tryd.infoStr
  unfold GroupsIs
  obtain ⟨hf, _, _, _, _⟩ := h
  obtain ⟨frs, dfs, fa, fc, da, dc⟩ := p
  simp only [PtM.er] at *
  have HT : Hid (∀ k x, frs[k]? = some x → groupsOf ((frs.take (k + 1)).map FgM.f) = if x.f.group.size = 0 ∨ x.f.group ∈ groupsOf ((frs.take k).map FgM.f) then groupsOf ((frs.take k).map FgM.f) else groupsOf ((frs.take k).map FgM.f) ++ [x.f.group]) :=
    fun k x hx => by rw [List.take_add_one, List.map_append, hx]; exact groupsOf_snoc _ _
  have HL : Hid (∀ k, (groupsOf ((frs.take k).map FgM.f)).length ≤ frs.length) := fun k => by
    have := groupsOf_len ((frs.take k).map FgM.f)
    rw [List.length_map, List.length_take] at this
    omega
  go_enter Tryd.func130, Tryd.ntmps130
  go_wp2
  have hb0 : Below w.heap.size w (w.alloc (.cells #[.slice fa frs.length fc, .slice da dfs.length dc] 25)) := by (repeat' (first | exact Below.refl _ _ | assumption | refine Below.setCell ?_ (by first | omega | exact Below.size (by assumption) | (simp; done) | (simp; omega)) _ | refine Below.alloc ?_ (by first | omega | exact Below.size (by assumption) | (simp; done) | (simp; omega)) _ | refine Below.drew ?_ | refine below_drewN ?_ _))
  go_loopw [3, 9] (fun z i wr => ∃ (k : Nat) (gs : List ByteArray), k ≤ frs.length ∧ i = .int .i64 k ∧ Hid (gs = groupsOf ((frs.take k).map FgM.f)) ∧ wr.ownsRow w.heap.size 9 1 z gs.length (strsV gs) ∧ Below w.heap.size w wr) (fun _ i _ => frs.length - (intOf i).toNat)
  case atStart => exact ⟨0, [], Nat.zero_le _, rfl, Lib.hid (by simp [groupsOf, groupsFrom]), World.ownsRow_nil _ _ _ _, hb0⟩
  case round =>
    clear hb0
    obtain ⟨k, gs, hk, rfl, hgs, hown, hb⟩ := hrel
    by_cases hlt : k < frs.length
    · obtain ⟨x, hx⟩ : ∃ x, frs[k]? = some x := ⟨_, List.getElem?_eq_getElem hlt⟩
      obtain ⟨b, off, rfl, bl, c0, c1, c2, c3, c4, c5⟩ := fg_get (hf.below hb) hx
      have hN := HT.out k x hx
      rw [← hgs.out] at hN
      have hLn := HL.out k
      rw [← hgs.out] at hLn
      clear hx
      obtain ⟨A1, c1', rfl, hc1, hc2⟩ := own_form hown
      rcases Nat.eq_zero_or_pos x.f.group.size with h0 | h0
      · rw [if_pos (.inl h0)] at hN
        replace hN := Lib.hid hN
        have h1 := toList_nil h0
        clear h0
        go_wp2
        go_roundw
        case rel => exact ⟨k + 1, gs, by omega, by go_num, Lib.hid (by rw [hN.out]), hown.alloc _, by (repeat' (first | exact Below.refl _ _ | assumption | refine Below.setCell ?_ (by first | omega | exact Below.size (by assumption) | (simp; done) | (simp; omega)) _ | refine Below.alloc ?_ (by first | omega | exact Below.size (by assumption) | (simp; done) | (simp; omega)) _ | refine Below.drew ?_ | refine below_drewN ?_ _))⟩
        case measure => simp [intOf]; omega
      · have h1 := toList_one h0
        have h1' := toList_some h0
        have HC := Lib.hid (containsStr_any A1 c1' gs x.f.group (wr.alloc (.cells #[.int .i64 x.f.sect, .int .i64 x.f.align, .string x.f.group, .slice x.ba x.f.bs.length x.bc, .int .i64 x.f.size, .slice x.ra x.f.rs.length x.rc] 92)) (Reads.of_own (hown.alloc _)) (by omega))
        by_cases hm : x.f.group ∈ gs
        · rw [if_pos (.inr hm)] at hN
          rw [decide_eq_true hm] at HC
          replace hN := Lib.hid hN
          clear hm h0
          go_wp2_with (go_at_call 18; refine HC.out.mono ?_; rintro e w' ⟨rfl, rfl⟩)
          go_roundw
          case rel => exact ⟨k + 1, gs, by omega, by go_num, Lib.hid (by rw [hN.out]), hown.alloc _, by (repeat' (first | exact Below.refl _ _ | assumption | refine Below.setCell ?_ (by first | omega | exact Below.size (by assumption) | (simp; done) | (simp; omega)) _ | refine Below.alloc ?_ (by first | omega | exact Below.size (by assumption) | (simp; done) | (simp; omega)) _ | refine Below.drew ?_ | refine below_drewN ?_ _))⟩
          case measure => simp [intOf]; omega
        · rw [if_neg (fun hn => hn.elim (fun h => by omega) hm)] at hN
          rw [decide_eq_false hm] at HC
          replace hN := Lib.hid hN
          clear hm h0
          go_wp2_with (first
            | (go_at_call 18; refine HC.out.mono ?_; rintro e w' ⟨rfl, rfl⟩)
            | (at_builtin; refine wpList_append_own _ rfl (.tmp 23) (.tmp 26) 26 rfl w.heap.size 9 i0 (.string ⟨#[]⟩) 1 16 Tryd.underlying26 hi hz0 hz1 hz2 rfl (by decide) _ _ _ rfl ((hown.alloc _).alloc _) ⟨_, 0, none⟩ 1 1 [.string x.f.group] rfl rfl ?c1 ?c2 ?c3 ?c4 ?c5 ?_
               case c1 => exact one_cell3
               case c2 => intro u hu; simp at hu; subst hu; rfl
               case c3 => unfold maxLen; omega
               case c4 => omega
               case c5 => have := hb.size; simp; omega
               intro v' w3 hown3 hg3 _
               obtain ⟨hp3, hz3⟩ := own_push (hown.alloc _) hg3 (by have := hb.size; simp; omega)
               have RB : Below w.heap.size w w3 := (hb.alloc hb.size _).trans hp3
               clear hp3 hg3 hown))
          go_roundw
          case rel => exact ⟨k + 1, gs ++ [x.f.group], by omega, by go_num, Lib.hid (by rw [hN.out]), by rw [strsV_append, List.length_append]; exact hown3, RB⟩
          case measure => simp [intOf]; omega
    · obtain rfl : k = frs.length := by omega
      have hG : Hid (gs = groupsOf (frs.map FgM.f)) := by have := hgs.out; rw [List.take_length] at this; exact this
      go_wp2
      go_ret
      exact ⟨_, rfl, by rw [← hG.out]; exact hown, hb⟩

def GroupsRes (w : World) (p : Prt) (e : Ending) (w' : World) : Prop := ∃ v, e = .returned (.tuple #[v, .int .i64 (ckPart p)]) ∧ (ckPart p ≠ 0 → v = .slice none 0 0) ∧ (ckPart p = 0 → w'.ownsRow w.heap.size 9 1 v (groupsOf p.frs).length (strsV (groupsOf p.frs))) ∧ Below w.heap.size w w'
end Go.Proofs.YtokiekachlmigaaDoor
