/- slices.Clone of bytes, places, fragments, definitions. -/
import Derived.Test.YtmlomnhjbmocfaaDoorBA
import Derived.Test.YtmlomnhjbmocfaaDoorB1
import Derived.Deep.Onto
set_option linter.all false
namespace Go.Proofs.YtmlomnhjbmocfaaDoor
open Go.RowKit

theorem run_eql_slice_nil_any {P : Program} (w : World) (t e : TypeId) (a : Option Addr) (n c n' c' : Nat) (h : P.underlying t = some (.slice e)) :
    (binOp .eql t (.slice a n c) (.slice none n' c')).run P w = .ok (.bool a.isNone) w := by
  simp only [binOp]
  simp [Op.equal, Op.maxDepth, Lib.run_equalIn_slice_nil w 9999 t e a n c n' c' h]

theorem Tryd.infoBytes : (Tryd.prog.info? 5).map (fun i => (i.zero, i.size, i.bytes)) = some (some (.int .u8 0), 1, 1) := by kernel_rfl
theorem Tryd.infoRels : (Tryd.prog.info? 93).map (fun i => (i.zero, i.size, i.bytes)) = some (some (.agg #[.int .i64 0, .int .i64 0, .string ⟨#[]⟩, .int .i64 0, .int .i64 0]), 5, 48) := by kernel_rfl
theorem Tryd.infoFrags : (Tryd.prog.info? 63).map (fun i => (i.zero, i.size, i.bytes)) = some (some (.agg #[.int .i64 0, .int .i64 0, .string ⟨#[]⟩, .slice none 0 0, .int .i64 0, .slice none 0 0]), 6, 88) := by kernel_rfl
theorem Tryd.infoDefs : (Tryd.prog.info? 70).map (fun i => (i.zero, i.size, i.bytes)) = some (some (.agg #[.string ⟨#[]⟩, .int .i64 0, .int .i64 0, .int .i64 0, .int .i64 0, .int .i64 0]), 6, 56) := by kernel_rfl

theorem bytesV_one (l : List UInt8) : ∀ u ∈ bytesV l, u.oneCell' = true := by
  intro u hu; simp only [bytesV, List.mem_map] at hu; obtain ⟨x, _, rfl⟩ := hu; rfl
theorem relsV_one (l : List Rel) : ∀ u ∈ relsV l, u.oneCell' = true := by
  intro u hu; simp only [relsV, List.mem_flatMap] at hu; obtain ⟨x, _, hx⟩ := hu
  simp only [Rel.cells, List.mem_cons, List.not_mem_nil, or_false] at hx
  rcases hx with rfl | rfl | rfl | rfl | rfl <;> rfl
theorem dfsV_one (l : List Df) : ∀ u ∈ dfsV l, u.oneCell' = true := by
  intro u hu; simp only [dfsV, List.mem_flatMap] at hu; obtain ⟨x, _, hx⟩ := hu
  simp only [Df.cells, List.mem_cons, List.not_mem_nil, or_false] at hx
  rcases hx with rfl | rfl | rfl | rfl | rfl | rfl <;> rfl
theorem fgsV_one (l : List FgM) : ∀ u ∈ fgsV l, u.oneCell' = true := by
  intro u hu; simp only [fgsV, List.mem_flatMap] at hu; obtain ⟨x, _, hx⟩ := hu
  simp only [FgM.cells, List.mem_cons, List.not_mem_nil, or_false] at hx
  rcases hx with rfl | rfl | rfl | rfl | rfl | rfl <;> rfl

set_option maxHeartbeats 1000000 in
theorem cloneBytes_any (A : Option Addr) (n c : Nat) (cs : List Value) (w : World) (h : Reads w w.heap.size 1 A n cs) (h1 : ∀ u ∈ cs, u.oneCell' = true) (hn : n * 1 ≤ 140737488355328) (hm : n ≤ 9223372036854775807) :
    Calls Tryd.prog 85 #[.slice A n c] w fun e w' => ∃ v, e = .returned v ∧ w'.ownsRow w.heap.size 5 1 v n cs ∧ Below w.heap.size w w' := by
  obtain ⟨i0, hi, hz0, hz1, hz2⟩ := info_parts Tryd.infoBytes
  have hq := fun W => run_eql_slice_nil_any (P := Tryd.prog) W 60 5 A n c 0 0 Tryd.underlying60
  rcases A with _ | ad
  · have hn0 : n = 0 := by
      rcases Nat.eq_zero_or_pos n with h0 | h0
      · exact h0
      · obtain ⟨b, off, e, _⟩ := h.2 h0
        cases e
    subst hn0
    have hcs : cs = [] := List.eq_nil_of_length_eq_zero (by simpa using h.1)
    subst hcs
    go_enter Tryd.func85, Tryd.ntmps85
    go_wp2
    go_ret
    exact ⟨_, rfl, World.ownsRow_nil _ _ _ _, Below.refl _ _⟩
  · have hown : (w.alloc (.cells #[] 5)).ownsRow w.heap.size 5 1 (.slice (some ⟨w.heap.size, 0, none⟩) 0 0) 0 [] := World.ownsRow_made _ _ _ (Nat.le_refl _) (Nat.zero_le _) rfl
    have hr := h.alloc (Nat.le_refl _) (.cells #[] 5)
    go_enter Tryd.func85, Tryd.ntmps85
    go_wp2_with (at_builtin; refine wpList_append_any _ rfl (.tmp 5) (.tmp 6) _ rfl w.heap.size 5 i0 (.int .u8 0) 1 1 Tryd.underlying60 hi hz0 hz1 hz2 rfl (by omega) _ _ _ rfl hown w.heap.size (some ad) n c cs rfl hr h1 ?c2 ?c3 ?c4 ?_)
    case c2 => unfold maxLen; omega
    case c3 => omega
    case c4 => simp
    · intro v' w2 hown2 hg2 hat2
      have hb2 : Below w.heap.size w w2 := ((Below.refl _ _).alloc (Nat.le_refl _) _).grown hg2 (by simp) (fun g hg => (hown.lt g hg).1)
      clear hg2 hat2
      go_wp2
      go_ret
      exact ⟨_, rfl, hown2, hb2⟩

set_option maxHeartbeats 1000000 in
theorem cloneRels_any (A : Option Addr) (n c : Nat) (cs : List Value) (w : World) (h : Reads w w.heap.size 5 A n cs) (h1 : ∀ u ∈ cs, u.oneCell' = true) (hn : n * 48 ≤ 140737488355328) (hm : n ≤ 9223372036854775807) :
    Calls Tryd.prog 86 #[.slice A n c] w fun e w' => ∃ v, e = .returned v ∧ w'.ownsRow w.heap.size 93 5 v n cs ∧ Below w.heap.size w w' := by
  obtain ⟨i0, hi, hz0, hz1, hz2⟩ := info_parts Tryd.infoRels
  have hq := fun W => run_eql_slice_nil_any (P := Tryd.prog) W 61 93 A n c 0 0 Tryd.underlying61
  rcases A with _ | ad
  · have hn0 : n = 0 := by
      rcases Nat.eq_zero_or_pos n with h0 | h0
      · exact h0
      · obtain ⟨b, off, e, _⟩ := h.2 h0
        cases e
    subst hn0
    have hcs : cs = [] := List.eq_nil_of_length_eq_zero (by simpa using h.1)
    subst hcs
    go_enter Tryd.func86, Tryd.ntmps86
    go_wp2
    go_ret
    exact ⟨_, rfl, World.ownsRow_nil _ _ _ _, Below.refl _ _⟩
  · have hown : (w.alloc (.cells #[] 93)).ownsRow w.heap.size 93 5 (.slice (some ⟨w.heap.size, 0, none⟩) 0 0) 0 [] := World.ownsRow_made _ _ _ (Nat.le_refl _) (Nat.zero_le _) rfl
    have hr := h.alloc (Nat.le_refl _) (.cells #[] 93)
    go_enter Tryd.func86, Tryd.ntmps86
    go_wp2_with (at_builtin; refine wpList_append_any _ rfl (.tmp 5) (.tmp 6) _ rfl w.heap.size 93 i0 (.agg #[.int .i64 0, .int .i64 0, .string ⟨#[]⟩, .int .i64 0, .int .i64 0]) 5 48 Tryd.underlying61 hi hz0 hz1 hz2 rfl (by omega) _ _ _ rfl hown w.heap.size (some ad) n c cs rfl hr h1 ?c2 ?c3 ?c4 ?_)
    case c2 => unfold maxLen; omega
    case c3 => omega
    case c4 => simp
    · intro v' w2 hown2 hg2 hat2
      have hb2 : Below w.heap.size w w2 := ((Below.refl _ _).alloc (Nat.le_refl _) _).grown hg2 (by simp) (fun g hg => (hown.lt g hg).1)
      clear hg2 hat2
      go_wp2
      go_ret
      exact ⟨_, rfl, hown2, hb2⟩

set_option maxHeartbeats 1000000 in
theorem cloneFrags_any (A : Option Addr) (n c : Nat) (cs : List Value) (w : World) (h : Reads w w.heap.size 6 A n cs) (h1 : ∀ u ∈ cs, u.oneCell' = true) (hn : n * 88 ≤ 140737488355328) (hm : n ≤ 9223372036854775807) :
    Calls Tryd.prog 83 #[.slice A n c] w fun e w' => ∃ v, e = .returned v ∧ w'.ownsRow w.heap.size 63 6 v n cs ∧ Below w.heap.size w w' := by
  obtain ⟨i0, hi, hz0, hz1, hz2⟩ := info_parts Tryd.infoFrags
  have hq := fun W => run_eql_slice_nil_any (P := Tryd.prog) W 22 63 A n c 0 0 Tryd.underlying22
  rcases A with _ | ad
  · have hn0 : n = 0 := by
      rcases Nat.eq_zero_or_pos n with h0 | h0
      · exact h0
      · obtain ⟨b, off, e, _⟩ := h.2 h0
        cases e
    subst hn0
    have hcs : cs = [] := List.eq_nil_of_length_eq_zero (by simpa using h.1)
    subst hcs
    go_enter Tryd.func83, Tryd.ntmps83
    go_wp2
    go_ret
    exact ⟨_, rfl, World.ownsRow_nil _ _ _ _, Below.refl _ _⟩
  · have hown : (w.alloc (.cells #[] 63)).ownsRow w.heap.size 63 6 (.slice (some ⟨w.heap.size, 0, none⟩) 0 0) 0 [] := World.ownsRow_made _ _ _ (Nat.le_refl _) (Nat.zero_le _) rfl
    have hr := h.alloc (Nat.le_refl _) (.cells #[] 63)
    go_enter Tryd.func83, Tryd.ntmps83
    go_wp2_with (at_builtin; refine wpList_append_any _ rfl (.tmp 5) (.tmp 6) _ rfl w.heap.size 63 i0 (.agg #[.int .i64 0, .int .i64 0, .string ⟨#[]⟩, .slice none 0 0, .int .i64 0, .slice none 0 0]) 6 88 Tryd.underlying22 hi hz0 hz1 hz2 rfl (by omega) _ _ _ rfl hown w.heap.size (some ad) n c cs rfl hr h1 ?c2 ?c3 ?c4 ?_)
    case c2 => unfold maxLen; omega
    case c3 => omega
    case c4 => simp
    · intro v' w2 hown2 hg2 hat2
      have hb2 : Below w.heap.size w w2 := ((Below.refl _ _).alloc (Nat.le_refl _) _).grown hg2 (by simp) (fun g hg => (hown.lt g hg).1)
      clear hg2 hat2
      go_wp2
      go_ret
      exact ⟨_, rfl, hown2, hb2⟩

set_option maxHeartbeats 1000000 in
theorem cloneDefs_any (A : Option Addr) (n c : Nat) (cs : List Value) (w : World) (h : Reads w w.heap.size 6 A n cs) (h1 : ∀ u ∈ cs, u.oneCell' = true) (hn : n * 56 ≤ 140737488355328) (hm : n ≤ 9223372036854775807) :
    Calls Tryd.prog 84 #[.slice A n c] w fun e w' => ∃ v, e = .returned v ∧ w'.ownsRow w.heap.size 70 6 v n cs ∧ Below w.heap.size w w' := by
  obtain ⟨i0, hi, hz0, hz1, hz2⟩ := info_parts Tryd.infoDefs
  have hq := fun W => run_eql_slice_nil_any (P := Tryd.prog) W 23 70 A n c 0 0 Tryd.underlying23
  rcases A with _ | ad
  · have hn0 : n = 0 := by
      rcases Nat.eq_zero_or_pos n with h0 | h0
      · exact h0
      · obtain ⟨b, off, e, _⟩ := h.2 h0
        cases e
    subst hn0
    have hcs : cs = [] := List.eq_nil_of_length_eq_zero (by simpa using h.1)
    subst hcs
    go_enter Tryd.func84, Tryd.ntmps84
    go_wp2
    go_ret
    exact ⟨_, rfl, World.ownsRow_nil _ _ _ _, Below.refl _ _⟩
  · have hown : (w.alloc (.cells #[] 70)).ownsRow w.heap.size 70 6 (.slice (some ⟨w.heap.size, 0, none⟩) 0 0) 0 [] := World.ownsRow_made _ _ _ (Nat.le_refl _) (Nat.zero_le _) rfl
    have hr := h.alloc (Nat.le_refl _) (.cells #[] 70)
    go_enter Tryd.func84, Tryd.ntmps84
    go_wp2_with (at_builtin; refine wpList_append_any _ rfl (.tmp 5) (.tmp 6) _ rfl w.heap.size 70 i0 (.agg #[.string ⟨#[]⟩, .int .i64 0, .int .i64 0, .int .i64 0, .int .i64 0, .int .i64 0]) 6 56 Tryd.underlying23 hi hz0 hz1 hz2 rfl (by omega) _ _ _ rfl hown w.heap.size (some ad) n c cs rfl hr h1 ?c2 ?c3 ?c4 ?_)
    case c2 => unfold maxLen; omega
    case c3 => omega
    case c4 => simp
    · intro v' w2 hown2 hg2 hat2
      have hb2 : Below w.heap.size w w2 := ((Below.refl _ _).alloc (Nat.le_refl _) _).grown hg2 (by simp) (fun g hg => (hown.lt g hg).1)
      clear hg2 hat2
      go_wp2
      go_ret
      exact ⟨_, rfl, hown2, hb2⟩

end Go.Proofs.YtmlomnhjbmocfaaDoor
