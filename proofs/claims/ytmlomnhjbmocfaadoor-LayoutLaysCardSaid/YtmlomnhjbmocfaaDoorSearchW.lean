/- slices.BinarySearch at strings: what it finds in a row that rises. -/
import Derived.Test.YtmlomnhjbmocfaaDoorSetD
import Derived.Test.YtmlomnhjbmocfaaDoorFaultW
import Derived.Sort.Walk0
set_option linter.all false
namespace Go.Proofs.YtmlomnhjbmocfaaDoor
open Go.RowKit

theorem key_toList (s : ByteArray) : s.toList = keyOf s := ByteArray.toList_eq s
theorem cmpNaN_any (x : ByteArray) (w : World) : Calls Tryd.prog 111 #[.string x] w fun e w' => e = .returned (.bool false) ∧ w' = w := by
  have h : (x.toList == x.toList) = true := by simp
  go_enter Tryd.func111, Tryd.ntmps111
  go_wp2
  go_ret
  exact ⟨by simp, rfl⟩
theorem slNaN_any (x : ByteArray) (w : World) : Calls Tryd.prog 81 #[.string x] w fun e w' => e = .returned (.bool false) ∧ w' = w := by
  have h : (x.toList == x.toList) = true := by simp
  go_enter Tryd.func81, Tryd.ntmps81
  go_wp2
  go_ret
  exact ⟨by simp, rfl⟩
theorem less_any (x y : ByteArray) (w : World) : Calls Tryd.prog 80 #[.string x, .string y] w fun e w' => e = .returned (.bool (decide (keyOf x < keyOf y))) ∧ w' = w := by
  have hx := key_toList x
  have hy := key_toList y
  go_enter Tryd.func80, Tryd.ntmps80
  go_wp2_with (go_at_call 111; refine (cmpNaN_any _ _).mono ?_; rintro e w' ⟨rfl, rfl⟩)
  go_ret
  exact ⟨by rw [← bytesLess_eq]; rfl, rfl⟩

theorem rising_le {l : List ByteArray} (h : Rising (l.map keyOf)) {i j : Nat} {x y : ByteArray} (hx : l[i]? = some x) (hy : l[j]? = some y) (hij : i < j) : keyOf x ≤ keyOf y ∧ keyOf x ≠ keyOf y := by
  obtain ⟨h1, rfl⟩ := List.getElem?_eq_some_iff.1 hx
  obtain ⟨h2, rfl⟩ := List.getElem?_eq_some_iff.1 hy
  have := List.pairwise_iff_getElem.1 h i j (by simpa using h1) (by simpa using h2) hij
  simpa using this
theorem key_inj {a b : ByteArray} (h : keyOf a = keyOf b) : a = b := by rw [← of_key a, h, of_key]

set_option maxHeartbeats 8000000 in
set_option maxRecDepth 100000 in
theorem search_any (A : Option Addr) (c : Nat) (l : List ByteArray) (s : ByteArray) (w : World) (hR : Reads w w.heap.size 1 A l.length (strsV l)) (hs : Rising (l.map keyOf)) (hlm : l.length < 4611686018427387904) :
    Calls Tryd.prog 42 #[.slice A l.length c, .string s] w fun e w' => (∃ (k : Nat) (f : Bool), e = .returned (.tuple #[.int .i64 k, .bool f]) ∧ f = decide (s ∈ l) ∧ (f = true → l[k]? = some s) ∧ k ≤ l.length) ∧ w' = w := by
  have HS := Lib.hid hs
  clear hs
  go_enter Tryd.func42, Tryd.ntmps42
  go_wp2_with fail
  go_loopw [7, 8] (fun s7 s8 wr => ∃ lo hi : Nat, s7 = .int .i64 lo ∧ s8 = .int .i64 hi ∧ lo ≤ hi ∧ hi ≤ l.length ∧ wr = w ∧ Hid ((∀ t x, l[t]? = some x → t < lo → keyOf x < keyOf s) ∧ (∀ t x, l[t]? = some x → hi ≤ t → keyOf s ≤ keyOf x))) (fun i j _ => (intOf j).toNat - (intOf i).toNat)
  case atStart => exact ⟨0, l.length, rfl, rfl, Nat.zero_le _, Nat.le_refl _, rfl, Lib.hid ⟨fun t x _ ht => absurd ht (Nat.not_lt_zero _), fun t x hx ht => by have := (List.getElem?_eq_some_iff.1 hx).1; omega⟩⟩
  case round =>
    obtain ⟨lo, hi, rfl, rfl, hlh, hin, rfl, HI⟩ := hrel
    by_cases hlt : lo < hi
    · obtain ⟨x, hx⟩ : ∃ x, l[(lo + hi) / 2]? = some x := ⟨_, List.getElem?_eq_getElem (by omega)⟩
      obtain ⟨b, off, rfl, cm⟩ := str_get hR hx
      have HX := Lib.hid hx
      clear hx
      by_cases hyx : keyOf x < keyOf s
      · have hD := decide_eq_true hyx
        have HY := Lib.hid hyx
        clear hyx
        go_wp2_with (go_at_call 80; refine (less_any _ _ _).mono ?_; rintro e w' ⟨rfl, rfl⟩; rw [hD])
        go_roundw
        case rel =>
          refine ⟨(lo + hi) / 2 + 1, hi, by first | rfl | (rw [show ((lo : Int) + (hi : Int)) / 2 + 1 = (((lo + hi) / 2 + 1 : Nat) : Int) by omega]), rfl, by omega, hin, (by first | rfl | trivial), Lib.hid ⟨fun t y hy ht => ?_, HI.out.2⟩⟩
          rcases Nat.lt_or_ge t ((lo + hi) / 2) with h1 | h1
          · exact List.lt_of_le_of_lt (rising_le HS.out hy HX.out h1).1 HY.out
          · obtain rfl : t = (lo + hi) / 2 := by omega
            have := HX.out.symm.trans hy
            injection this with this
            rw [← this]; exact HY.out
        case measure => simp [intOf]; omega
      · have hD := decide_eq_false hyx
        have HY : Hid (keyOf s ≤ keyOf x) := List.not_lt.1 hyx
        clear hyx
        go_wp2_with (go_at_call 80; refine (less_any _ _ _).mono ?_; rintro e w' ⟨rfl, rfl⟩; rw [hD])
        go_roundw
        case rel =>
          refine ⟨lo, (lo + hi) / 2, rfl, by first | rfl | (rw [show ((lo : Int) + (hi : Int)) / 2 = (((lo + hi) / 2 : Nat) : Int) by omega]), by omega, by omega, (by first | rfl | trivial), Lib.hid ⟨HI.out.1, fun t y hy ht => ?_⟩⟩
          rcases Nat.lt_or_ge ((lo + hi) / 2) t with h1 | h1
          · exact List.le_trans HY.out (rising_le HS.out HX.out hy h1).1
          · obtain rfl : t = (lo + hi) / 2 := by omega
            have := HX.out.symm.trans hy
            injection this with this
            rw [← this]; exact HY.out
        case measure => simp [intOf]; omega
    · obtain rfl : hi = lo := by omega
      have hno : ∀ t x, l[t]? = some x → t < hi → x ≠ s := fun t x hx ht e => by
        have := HI.out.1 t x hx ht
        rw [e] at this
        exact List.lt_irrefl _ this
      by_cases hn : hi < l.length
      · obtain ⟨x, hx⟩ : ∃ x, l[hi]? = some x := ⟨_, List.getElem?_eq_getElem hn⟩
        obtain ⟨b, off, rfl, cm⟩ := str_get hR hx
        by_cases hxs : x = s
        · have e0 := fe_eq hxs
          have HF : Hid ((true : Bool) = decide (s ∈ l) ∧ l[hi]? = some s) := ⟨(decide_eq_true (by rw [← hxs]; exact List.mem_of_getElem? hx)).symm, by rw [← hxs]; exact hx⟩
          clear hxs hno hx
          go_wp2_with (go_at_call 81; refine (slNaN_any _ _).mono ?_; rintro e w' ⟨rfl, rfl⟩)
          go_ret2
          exact ⟨⟨hi, true, rfl, HF.out.1, fun _ => HF.out.2, Nat.le_of_lt hn⟩, rfl⟩
        · have e0 := fe_ne hxs
          have HF : Hid ((false : Bool) = decide (s ∈ l)) := by
            refine (decide_eq_false fun hm => ?_).symm
            obtain ⟨t, ht, e⟩ := List.getElem_of_mem hm
            have ht' : l[t]? = some s := by rw [List.getElem?_eq_getElem ht, e]
            rcases Nat.lt_trichotomy t hi with h1 | h1 | h1
            · exact hno t s ht' h1 rfl
            · rw [h1] at ht'
              have := hx.symm.trans ht'
              injection this with this
              exact hxs this
            · have h2 := rising_le HS.out hx ht' h1
              exact h2.2 (List.le_antisymm h2.1 (HI.out.2 hi x hx (Nat.le_refl _)))
          clear hxs hno hx
          go_wp2_with (go_at_call 81; refine (slNaN_any _ _).mono ?_; rintro e w' ⟨rfl, rfl⟩)
          go_ret2
          exact ⟨⟨hi, false, rfl, HF.out, (fun h => by cases h), Nat.le_of_lt hn⟩, rfl⟩
      · have HF : Hid ((false : Bool) = decide (s ∈ l)) := by
          refine (decide_eq_false fun hm => ?_).symm
          obtain ⟨t, ht, e⟩ := List.getElem_of_mem hm
          exact hno t s (by rw [List.getElem?_eq_getElem ht, e]) (by omega) rfl
        obtain rfl : hi = l.length := by omega
        clear hno hn
        go_wp2_with (go_at_call 81; refine (slNaN_any _ _).mono ?_; rintro e w' ⟨rfl, rfl⟩)
        go_ret2
        exact ⟨⟨l.length, false, rfl, HF.out, (fun h => by cases h), Nat.le_refl _⟩, rfl⟩
end Go.Proofs.YtmlomnhjbmocfaaDoor
