/- ropewalklaw.LinkFaults: its closure; a row's beginning. -/
import Derived.Test.YtbhjdinjoonngaaLinkL
set_option linter.all false
namespace Go.Proofs.Ytbhjdinjoonngaa
open Go.RowKit

theorem Reads.prefix_ {w : World} {B size n m : Nat} {A : Option Addr} {xs : List Value} (h : Reads w B size A n xs) (hm : m ≤ n) : Reads w B size A m (xs.take (m * size)) := by
  refine ⟨by rw [List.length_take, h.1]; exact Nat.min_eq_left (Nat.mul_le_mul_right _ hm), fun h0 => ?_⟩
  obtain ⟨b, off, e, hb, hc⟩ := h.2 (by omega)
  refine ⟨b, off, e, hb, fun j u hj => hc j u ?_⟩
  have hl := (List.getElem?_eq_some_iff.1 hj).1
  rw [List.length_take] at hl
  rw [List.getElem?_take_of_lt (by omega)] at hj
  exact hj
theorem flxsV_len (l : List Flx) : (flxsV l).length = l.length * 4 := flatMap_len (cells := Flx.cells) (k := 4) (fun _ => rfl) l
theorem flxsV_take (l r : List Flx) : (flxsV (l ++ r)).take (l.length * 4) = flxsV l := by
  rw [flxsV_append, List.take_append_of_le_length (by rw [flxsV_len]; exact Nat.le_refl _), List.take_of_length_le (by rw [flxsV_len]; exact Nat.le_refl _)]
theorem flxsV_drop (l r : List Flx) : (flxsV (l ++ r)).drop (l.length * 4) = flxsV r := by
  rw [flxsV_append, List.drop_append_of_le_length (by rw [flxsV_len]; exact Nat.le_refl _), List.drop_of_length_le (by rw [flxsV_len]; exact Nat.le_refl _), List.nil_append]
theorem linkFaults1_any (x : Rel) (f : Flx) (gE : Nat) (w : World) (kE : Blk w gE 114 #[.int .i64 f.e, .string f.name, .int .i64 f.frag, .int .i64 f.at_]) :
    Calls Try.prog 55 #[.agg #[.int .i64 x.at_, .int .i64 x.kind, .string x.name, .int .i64 x.frag, .int .i64 x.add], .pointer (some ⟨gE, 0, none⟩)] w fun e w' => e = .returned (.bool (x.at_ == f.at_)) ∧ Below w.heap.size w w' := by
  have hne : w.heap.size ≠ gE := Nat.ne_of_gt kE.lt
  have kX := kE.alloc (.cells #[.int .i64 x.at_, .int .i64 x.kind, .string x.name, .int .i64 x.frag, .int .i64 x.add] 119)
  have c0 := kX.cell 3
  have c3 := kE.cell 3
  clear kX
  go_enter Try.func55, Try.ntmps55
  go_wp2
  go_ret
  exact ⟨rfl, by (repeat' (first | exact Below.refl _ _ | assumption | refine Below.setCell ?_ (by first | omega | exact Below.size (by assumption) | (simp; done) | (simp; omega)) _ | refine Below.alloc ?_ (by first | omega | exact Below.size (by assumption) | (simp; done) | (simp; omega)) _ | refine Below.drew ?_ | refine below_drewN ?_ _))⟩

set_option maxHeartbeats 8000000 in
set_option maxRecDepth 100000 in
theorem idxFRel_any (A : Option Addr) (c : Nat) (l : List Rel) (pr : Rel → Bool) (gE : Nat) (w : World) (hR : Reads w w.heap.size 5 A l.length (relsV l)) (hlm : l.length ≤ 9223372036854775807)
    (HL : ∀ x ∈ l, ∀ W, Below w.heap.size w W → Calls Try.prog 55 #[.agg #[.int .i64 x.at_, .int .i64 x.kind, .string x.name, .int .i64 x.frag, .int .i64 x.add], .pointer (some ⟨gE, 0, none⟩)] W fun e w' => e = .returned (.bool (pr x)) ∧ Below W.heap.size W w') :
    Calls Try.prog 108 #[.slice A l.length c, .func (.func 55) #[] #[.pointer (some ⟨gE, 0, none⟩)]] w
      fun e w' => (∃ n : Int, e = .returned (.int .i64 n) ∧ decide (0 ≤ n) = l.any pr) ∧ Below w.heap.size w w' := by
  have HL := Lib.hid HL
  go_enter Try.func108, Try.ntmps108
  go_wp2_with fail
  go_loopw [8] (fun i wr => ∃ k : Nat, k ≤ l.length ∧ i = .int .i64 k ∧ Hid ((l.take k).any pr = false) ∧ Below w.heap.size w wr) (fun i _ => l.length - (intOf i).toNat)
  case atStart => exact ⟨0, Nat.zero_le _, rfl, Lib.hid (by simp), Below.refl _ _⟩
  case round =>
    obtain ⟨k, hk, rfl, hno, hb⟩ := hrel
    by_cases hlt : k < l.length
    · obtain ⟨x, hx⟩ : ∃ x, l[k]? = some x := ⟨_, List.getElem?_eq_getElem hlt⟩
      obtain ⟨b, off, rfl, bl, c0, c1, c2, c3, c4⟩ := rel_get (hR.below hb) hx
      have HCx := HL.out x (List.mem_of_getElem? hx) wr hb
      have HY : Hid ((l.take (k + 1)).any pr = pr x) := by show _ = _; rw [List.take_add_one, hx, List.any_append, hno.out]; simp
      have HM : Hid (pr x = true → l.any pr = true) := fun h => List.any_eq_true.2 ⟨x, List.mem_of_getElem? hx, h⟩
      obtain ⟨t, ht⟩ : ∃ t, pr x = t := ⟨_, rfl⟩
      rw [ht] at HCx HY HM
      replace HCx := Lib.hid HCx
      clear hx ht
      cases t with
      | true =>
        have HM2 := Lib.hid (HM.out rfl)
        clear HM
        go_wp2_with (go_at_call 55; refine HCx.out.mono ?_; rintro e w' ⟨rfl, hb2⟩)
        go_ret
        exact ⟨⟨k, rfl, by rw [HM2.out]; exact decide_eq_true (by omega)⟩, hb.trans (hb2.mono hb.size)⟩
      | false =>
        go_wp2_with (go_at_call 55; refine HCx.out.mono ?_; rintro e w' ⟨rfl, hb2⟩)
        go_roundw
        case rel => exact ⟨k + 1, by omega, by go_num, HY, hb.trans (hb2.mono hb.size)⟩
        case measure => simp [intOf]; omega
    · obtain rfl : k = l.length := by omega
      go_wp2
      go_ret
      exact ⟨⟨-1, rfl, by have := hno.out; rw [List.take_length] at this; rw [this]; rfl⟩, hb⟩
set_option maxHeartbeats 8000000 in
theorem hasFRel_any (A : Option Addr) (c : Nat) (l : List Rel) (pr : Rel → Bool) (gE : Nat) (w : World) (hR : Reads w w.heap.size 5 A l.length (relsV l)) (hlm : l.length ≤ 9223372036854775807)
    (HL : ∀ x ∈ l, ∀ W, Below w.heap.size w W → Calls Try.prog 55 #[.agg #[.int .i64 x.at_, .int .i64 x.kind, .string x.name, .int .i64 x.frag, .int .i64 x.add], .pointer (some ⟨gE, 0, none⟩)] W fun e w' => e = .returned (.bool (pr x)) ∧ Below W.heap.size W w') :
    Calls Try.prog 54 #[.slice A l.length c, .func (.func 55) #[] #[.pointer (some ⟨gE, 0, none⟩)]] w
      fun e w' => e = .returned (.bool (l.any pr)) ∧ Below w.heap.size w w' := by
  have HI := Lib.hid (idxFRel_any A c l pr gE w hR hlm HL)
  clear HL
  go_enter Try.func54, Try.ntmps54
  go_wp2_with fail
  refine HI.out.mono ?_
  rintro e w1 ⟨⟨n, rfl, hn⟩, hb⟩
  replace hn := Lib.hid hn
  go_wp2
  go_ret
  exact ⟨by rw [← hn.out]; rfl, hb⟩
end Go.Proofs.Ytbhjdinjoonngaa
