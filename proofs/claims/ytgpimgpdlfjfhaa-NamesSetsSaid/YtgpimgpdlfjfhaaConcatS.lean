/- slices.Grow of nothing, slices.Concat, at strings. -/
import Derived.Test.YtgpimgpdlfjfhaaApp
import Derived.Test.YtgpimgpdlfjfhaaOpen
import Derived.Test.YtgpimgpdlfjfhaaIndexS
import Derived.Lib.AppendZeros
namespace Go.Proofs.Ytgpimgpdlfjfhaa
open Go.RowKit
set_option maxRecDepth 100000

theorem Try.infoStrs : (Try.prog.info? 9).map (fun i => (i.zero, i.size, i.bytes)) = some (some (.string ⟨#[]⟩), 1, 16) := by kernel_rfl

set_option maxHeartbeats 1000000 in
theorem growStrs_nil (n : Nat) (w : World) (hn : n * 16 ≤ 140737488355328) :
    Calls Try.prog 86 #[.slice none 0 0, .int .i64 n] w fun e w' => ∃ v, e = .returned v ∧ w'.ownsRow w.heap.size 9 1 v 0 [] ∧ Below w.heap.size w w' := by
  obtain ⟨i0, hi, hz0, hz1, hz2⟩ := info_parts Try.infoStrs
  rcases Nat.eq_zero_or_pos n with h0 | h0
  · subst h0
    go_enter Try.func86, Try.ntmps86
    go_wp2
    go_ret
    exact ⟨_, rfl, World.ownsRow_nil _ _ _ _, Below.refl _ _⟩
  · have hm : n ≤ maxLen := by unfold maxLen; omega
    have hcap := grownCap_le_maxLen w n 0 9 hm
    have hge := grownCap_ge w n 0 9
    unfold maxLen at hcap
    go_enter Try.func86, Try.ntmps86
    go_wp2_with (at_builtin; refine Lib.wpList_append_run _ rfl (.tmp 20) (.tmp 21) 67 3 rfl (.slice none 0 0) (.int .i64 n) rfl rfl _ _ (Lib.run_append_nil_zeros _ 67 3 _ 9 i0 (.string ⟨#[]⟩) .i64 .i64 Try.underlying67 Try.underlying3 hi hz0 n h0 (by rw [hz1]; decide) (by omega) (by rw [hz2]; omega)) ?_)
    go_ret
    refine ⟨_, rfl, World.ownsRow_made (w := w.drew) _ _ (Nat.le_refl _) (by unfold maxLen; omega) ?_, (Below.refl _ _).drew.alloc (Nat.le_refl _) _⟩
    simp [size_zeroCells, Value.cells]
    omega
def catStrs (ss : List (SliceIn ByteArray)) : List ByteArray := ss.flatMap SliceIn.l
theorem catStrs_len (ss : List (SliceIn ByteArray)) (k : Nat) : (catStrs (ss.take k)).length ≤ (catStrs ss).length := by
  have : catStrs ss = catStrs (ss.take k) ++ catStrs (ss.drop k) := by unfold catStrs; rw [← List.flatMap_append, List.take_append_drop]
  rw [this, List.length_append]; omega
theorem catStrs_snoc (ss : List (SliceIn ByteArray)) (k : Nat) (s : SliceIn ByteArray) (h : ss[k]? = some s) : catStrs (ss.take (k + 1)) = catStrs (ss.take k) ++ s.l := by
  have hk : k < ss.length := (List.getElem?_eq_some_iff.1 h).1
  have hs : ss[k] = s := (List.getElem?_eq_some_iff.1 h).2
  unfold catStrs
  rw [List.take_succ_eq_append_getElem hk, List.flatMap_append, hs]; simp

set_option maxHeartbeats 2000000 in
theorem concatStrs_any (A : Option Addr) (c : Nat) (ss : List (SliceIn ByteArray)) (w : World) (h : Reads w w.heap.size 1 A ss.length (ss.map fun s => .slice s.A s.l.length s.c))
    (he : ∀ s ∈ ss, Reads w w.heap.size 1 s.A s.l.length (strsV s.l)) (hsum : (catStrs ss).length * 16 ≤ 140737488355328) (hn : ss.length ≤ 65536) :
    Calls Try.prog 40 #[.slice A ss.length c] w fun e w' => ∃ v, e = .returned v ∧ w'.ownsRow w.heap.size 9 1 v (catStrs ss).length (strsV (catStrs ss)) ∧ Below w.heap.size w w' := by
  obtain ⟨i0, hi, hz0, hz1, hz2⟩ := info_parts Try.infoStrs
  have HE := Lib.hid he
  clear he
  go_enter Try.func40, Try.ntmps40
  go_wp2
  go_loop [3, 11] (fun z i => ∃ k : Nat, k ≤ ss.length ∧ i = .int .i64 k ∧ z = .int .i64 (catStrs (ss.take k)).length) (fun _ i => ss.length - (intOf i).toNat)
  case atStart => exact ⟨0, Nat.zero_le _, rfl, rfl⟩
  case round =>
    obtain ⟨k, hk, rfl, rfl⟩ := hrel
    have hle := catStrs_len ss k
    by_cases hlt : k < ss.length
    · obtain ⟨b, off, u, rfl, hb, hu, hc⟩ := h.at_ hlt
      obtain ⟨s, hs⟩ : ∃ s, ss[k]? = some s := ⟨_, List.getElem?_eq_getElem hlt⟩
      rw [List.getElem?_map, hs] at hu
      cases hu
      have hsn := catStrs_snoc ss k s hs
      have hle2 := catStrs_len ss (k + 1)
      have hl : (catStrs (ss.take (k + 1))).length = (catStrs (ss.take k)).length + s.l.length := by rw [hsn, List.length_append]
      have HL := Lib.hid hl
      rw [hl] at hle2
      clear hl hsn hs
      go_wp2
      go_round
      case rel => exact ⟨k + 1, by omega, by go_num, by rw [HL.out]; go_num⟩
      case measure => simp [intOf]; omega
    · obtain rfl : k = ss.length := by omega
      have htk := Lib.hid (List.take_length (l := ss))
      go_wp2_with fail
      refine (growStrs_nil _ w hsum).mono ?_
      rintro e w1 ⟨v, rfl, hown, hb⟩
      go_wp2
      go_loopw [6, 27] (fun z i wr => ∃ k : Nat, k ≤ ss.length ∧ i = .int .i64 k ∧ wr.ownsRow w.heap.size 9 1 z (catStrs (ss.take k)).length (strsV (catStrs (ss.take k))) ∧ Below w.heap.size w wr) (fun _ i _ => ss.length - (intOf i).toNat)
      case atStart => exact ⟨0, Nat.zero_le _, rfl, hown, hb⟩
      case round =>
        obtain ⟨k, hk, rfl, hownr, hbr⟩ := hrel
        clear hown hb hle
        have hle := catStrs_len ss k
        by_cases hlt : k < ss.length
        · obtain ⟨b, off, u, hA, hb, hu, hc⟩ := (h.below hbr).at_ hlt
          subst hA
          obtain ⟨s, hs⟩ : ∃ s, ss[k]? = some s := ⟨_, List.getElem?_eq_getElem hlt⟩
          rw [List.getElem?_map, hs] at hu
          cases hu
          have hrs := (HE.out s (List.mem_of_getElem? hs)).below hbr
          have hsn := catStrs_snoc ss k s hs
          have hle2 := catStrs_len ss (k + 1)
          have hl : (catStrs (ss.take (k + 1))).length = (catStrs (ss.take k)).length + s.l.length := by rw [hsn, List.length_append]
          have HL := Lib.hid hl
          have HSN := Lib.hid hsn
          rw [hl] at hle2
          clear hl hsn hs
          go_wp2_with (at_builtin; refine wpList_append_any _ rfl (.tmp 31) (.tmp 32) _ rfl w.heap.size 9 i0 (.string ⟨#[]⟩) 1 16 Try.underlying67 hi hz0 hz1 hz2 rfl (by omega) _ _ _ rfl hownr w.heap.size s.A s.l.length s.c (strsV s.l) rfl hrs ?c1 ?c2 ?c3 hbr.size ?_)
          case c1 => intro u hu; simp only [strsV, List.mem_map] at hu; obtain ⟨x, _, rfl⟩ := hu; rfl
          case c2 => unfold maxLen; omega
          case c3 => omega
          · intro v' w2 hown2 hg2 hat2
            have hb2 : Below w.heap.size w w2 := hbr.grown hg2 hbr.size (fun g hg => (hownr.lt g hg).1)
            clear hg2 hat2 hownr hrs hc
            go_wp2
            go_roundw
            case rel => exact ⟨k + 1, by omega, by go_num, by rw [HL.out, HSN.out]; simpa [strsV] using hown2, hb2⟩
            case measure => simp [intOf]; omega
        · obtain rfl : k = ss.length := by omega
          go_wp2
          go_ret
          exact ⟨_, rfl, by rw [htk.out] at hownr; exact hownr, hbr⟩
end Go.Proofs.Ytgpimgpdlfjfhaa
