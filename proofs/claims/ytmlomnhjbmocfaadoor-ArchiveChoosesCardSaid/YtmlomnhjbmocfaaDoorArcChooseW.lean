/- ropewalklaw.ArchiveChooses: the call returns true. -/
import Derived.Test.YtmlomnhjbmocfaaDoorRefChW
import Derived.Test.YtmlomnhjbmocfaaDoorRefItems
import Derived.Test.YtmlomnhjbmocfaaDoorArcT
import Derived.Test.YtmlomnhjbmocfaaDoorEqR
import Derived.Test.YtmlomnhjbmocfaaDoorRefA
set_option linter.all false
namespace Go.Proofs.YtmlomnhjbmocfaaDoor
open Go.RowKit

theorem choosesC_any (x : ByteArray) (w : World) : Calls Tryd.prog 19 #[.string x] w fun e w' => e = .returned (.bool (!nameB x)) ∧ Below w.heap.size w w' := by
  go_enter Tryd.func19, Tryd.ntmps19
  go_wp2_with fail
  refine (isName_any x w).mono ?_
  rintro e w1 ⟨rfl, hb1⟩
  go_wp2
  go_ret
  exact ⟨rfl, hb1⟩

set_option maxHeartbeats 8000000 in
set_option maxRecDepth 100000 in
theorem idxFNr_any (A : Option Addr) (c : Nat) (l : List ByteArray) (pr : ByteArray → Bool) (w : World) (hR : Reads w w.heap.size 1 A l.length (strsV l)) (hlm : l.length ≤ 9223372036854775807)
    (HL : ∀ x ∈ l, ∀ W, Below w.heap.size w W → Calls Tryd.prog 19 #[.string x] W fun e w' => e = .returned (.bool (pr x)) ∧ Below W.heap.size W w') :
    Calls Tryd.prog 51 #[.slice A l.length c, .func (.func 19) #[] #[]] w
      fun e w' => (∃ n : Int, e = .returned (.int .i64 n) ∧ decide (0 ≤ n) = l.any pr) ∧ Below w.heap.size w w' := by
  have HL := Lib.hid HL
  go_enter Tryd.func51, Tryd.ntmps51
  go_wp2_with fail
  go_loopw [8] (fun i wr => ∃ k : Nat, k ≤ l.length ∧ i = .int .i64 k ∧ Hid ((l.take k).any pr = false) ∧ Below w.heap.size w wr) (fun i _ => l.length - (intOf i).toNat)
  case atStart => exact ⟨0, Nat.zero_le _, rfl, Lib.hid (by simp), Below.refl _ _⟩
  case round =>
    obtain ⟨k, hk, rfl, hno, hb⟩ := hrel
    by_cases hlt : k < l.length
    · obtain ⟨x, hx⟩ : ∃ x, l[k]? = some x := ⟨_, List.getElem?_eq_getElem hlt⟩
      obtain ⟨b, off, rfl, bl, c0⟩ := nm_get (hR.below hb) hx
      have HCx := HL.out x (List.mem_of_getElem? hx) wr hb
      have HY : Hid ((l.take (k + 1)).any pr = pr x) := by show _ = _; rw [List.take_add_one, hx, List.any_append, hno.out]; simp
      have HM : Hid (pr x = true → l.any pr = true) := fun h => List.any_eq_true.2 ⟨x, List.mem_of_getElem? hx, h⟩
      obtain ⟨t, ht⟩ : ∃ t, pr x = t := ⟨_, rfl⟩
      rw [ht] at HCx HY HM
      replace HCx := Lib.hid HCx
      clear hx ht
      cases t with
      | true =>
        have HM2 := Lib.hid (HM.out rfl)
        clear HM
        go_wp2_with (go_at_call 19; refine HCx.out.mono ?_; rintro e w' ⟨rfl, hb2⟩)
        go_ret
        exact ⟨⟨k, rfl, by rw [HM2.out]; exact decide_eq_true (by omega)⟩, hb.trans (hb2.mono hb.size)⟩
      | false =>
        go_wp2_with (go_at_call 19; refine HCx.out.mono ?_; rintro e w' ⟨rfl, hb2⟩)
        go_roundw
        case rel => exact ⟨k + 1, by omega, by go_num, HY, hb.trans (hb2.mono hb.size)⟩
        case measure => simp [intOf]; omega
    · obtain rfl : k = l.length := by omega
      go_wp2
      go_ret
      exact ⟨⟨-1, rfl, by have := hno.out; rw [List.take_length] at this; rw [this]; rfl⟩, hb⟩
set_option maxHeartbeats 8000000 in
theorem hasFNr_any (A : Option Addr) (c : Nat) (l : List ByteArray) (pr : ByteArray → Bool) (w : World) (hR : Reads w w.heap.size 1 A l.length (strsV l)) (hlm : l.length ≤ 9223372036854775807)
    (HL : ∀ x ∈ l, ∀ W, Below w.heap.size w W → Calls Tryd.prog 19 #[.string x] W fun e w' => e = .returned (.bool (pr x)) ∧ Below W.heap.size W w') :
    Calls Tryd.prog 18 #[.slice A l.length c, .func (.func 19) #[] #[]] w
      fun e w' => e = .returned (.bool (l.any pr)) ∧ Below w.heap.size w w' := by
  have HI := Lib.hid (idxFNr_any A c l pr w hR hlm HL)
  clear HL
  go_enter Tryd.func18, Tryd.ntmps18
  go_wp2_with fail
  refine HI.out.mono ?_
  rintro e w1 ⟨⟨n, rfl, hn⟩, hb⟩
  replace hn := Lib.hid hn
  go_wp2
  go_ret
  exact ⟨by rw [← hn.out]; rfl, hb⟩

set_option maxHeartbeats 20000000 in
set_option maxRecDepth 100000 in
theorem archiveChooses_any (A Af : Option Addr) (c cf : Nat) (l : List ItM) (first : List ByteArray) (w : World) (h : ItsAt w w.heap.size A l) (hlm : l.length ≤ 9223372036854775807) (hf : Reads w w.heap.size 1 Af first.length (strsV first)) (hfm : first.length ≤ 9223372036854775807) :
    Calls Tryd.prog 4 #[.slice A l.length c, .slice Af first.length cf] w fun e w' => e = .returned (.bool true) ∧ Below w.heap.size w w' := by
  go_enter Tryd.func4, Tryd.ntmps4
  go_wp2_with fail
  refine (choose_any A Af c cf l first w h hlm hf hfm).mono ?_
  rintro e w1 ⟨z, qs, rfl, hz0, hz1, hb1⟩
  have h1 := h.all hb1
  have hf1 := (hf.below hb1).more hb1.size
  go_wp2_with fail
  refine (refItems_any A c l w1 h1 hlm).mono ?_
  rintro e w2 ⟨rfl, hb2⟩
  have h2 := h1.all hb2
  have hf2 := (hf1.below hb2).more hb2.size
  have hB2 := hb1.trans (hb2.mono hb1.size)
  go_wp2_with fail
  refine (taken_any w2).mono ?_
  rintro e w3 ⟨rfl, hb3⟩
  have h3 := h2.all hb3
  have hf3 := (hf2.below hb3).more hb3.size
  have hB3 := hB2.trans (hb3.mono hB2.size)
  have HK := Lib.hid (arcCheck_any A c l w3 h3 hlm)
  obtain ⟨n, hn⟩ : ∃ n, ckItems (l.map ItM.er) = n := ⟨_, rfl⟩
  rw [hn] at HK ⊢
  have HN := Lib.hid hn
  have q0 : (n != n) = false := by simp
  clear hn
  go_wp2_with fail
  refine HK.out.mono ?_
  rintro e w4 ⟨rfl, hb4⟩
  have h4 := h3.all hb4
  have hf4 := (hf3.below hb4).more hb4.size
  have hB4 := hB3.trans (hb4.mono hB3.size)
  clear HK h1 h2 h3 hf1 hf2 hf3 hB2 hB3 h hf
  obtain ⟨r, hr⟩ : ∃ r, chooseP (l.map ItM.er) first = r := ⟨_, rfl⟩
  rw [hr] at hz0 hz1 ⊢
  have HR := Lib.hid hr
  have HZ0 := Lib.hid hz0
  have HZ1 := Lib.hid hz1
  clear hr hz0 hz1
  by_cases hn0 : n = 0
  · subst hn0
    by_cases hf12 : 12 < first.length
    · have HE : Hid (r = ([], 2)) := HR.out.symm.trans (chooseP_bad (by unfold chooseE; rw [if_neg (by simp [HN.out]), if_pos hf12]) (by decide))
      obtain rfl : r = ([], 2) := HE.out
      obtain rfl : z = .slice none 0 0 := HZ0.out (by decide)
      have q1 : decide ((12 : Int) < (first.length : Int)) = true := decide_eq_true (by omega)
      have q2 : decide (12 < first.length) = true := decide_eq_true hf12
      clear hf12 HZ0 HZ1
      go_wp2_with fail
      go_ret
      exact ⟨rfl, hB4⟩
    · have q1 : decide ((12 : Int) < (first.length : Int)) = false := decide_eq_false (by omega)
      have q2 : decide (12 < first.length) = false := decide_eq_false hf12
      have HFN := Lib.hid (hasFNr_any Af cf first (fun s => !nameB s) w4 hf4 hfm (fun x _ W _ => choosesC_any x W))
      have HF12 := Lib.hid hf12
      obtain ⟨t, ht⟩ : ∃ t, (first.any fun s => !nameB s) = t := ⟨_, rfl⟩
      rw [ht] at HFN
      have HT := Lib.hid ht
      clear ht hf12
      cases t with
      | true =>
        have HE : Hid (r = ([], 1)) := HR.out.symm.trans (chooseP_bad (by unfold chooseE; rw [if_neg (by simp [HN.out]), if_neg HF12.out, if_pos HT.out]) (by decide))
        obtain rfl : r = ([], 1) := HE.out
        obtain rfl : z = .slice none 0 0 := HZ0.out (by decide)
        clear HZ0 HZ1
        go_wp2_with (go_at_call 18; refine HFN.out.mono ?_; rintro e w5 ⟨rfl, hb5⟩)
        go_ret
        exact ⟨rfl, hB4.trans (hb5.mono hB4.size)⟩
      | false =>
        have HE : Hid (r = (chosenP (l.map ItM.er) first, 0)) := HR.out.symm.trans (chooseP_ok (by unfold chooseE; rw [if_neg (by simp [HN.out]), if_neg HF12.out, if_neg (by rw [HT.out]; simp)]))
        obtain rfl : r = (chosenP (l.map ItM.er) first, 0) := HE.out
        obtain ⟨hev, heq⟩ := HZ1.out rfl
        obtain ⟨Az, cz, rfl, hz1, hz2⟩ := own_form hev.hz
        have HEQ := Lib.hid heq
        have HNS : Hid (∀ s ∈ first, s.size ≤ 8) := fun s hs => by
          have := List.any_eq_false.1 HT.out s hs
          exact nameB_short (by simpa using this)
        have hP1 : PtsAt w1 w1.heap.size Az qs := ⟨Reads.of_own hev.hz, fun q hq => (hev.each q hq).at_⟩
        have hb14 := (hb2.trans (hb3.mono hb2.size)).trans (hb4.mono (hb2.trans (hb3.mono hb2.size)).size)
        have hP4 := hP1.keep hb14 hb14.size
        have hf12 : first.length ≤ 12 := by have := HF12.out; omega
        clear hP1 hb14 hev heq HZ0 HZ1
        go_wp2_with (go_at_call 18; refine HFN.out.mono ?_; rintro e w5 ⟨rfl, hb5⟩)
        have h5 := h4.all hb5
        have hf5 := (hf4.below hb5).more hb5.size
        have hP5 := hP4.keep hb5 hb5.size
        have hB5 := hB4.trans (hb5.mono hB4.size)
        refine (refChosen_any A Af c cf l first w5 h5 hf5 HN.out hf12 HNS.out).mono ?_
        rintro e w6 ⟨Z, cz2, v, ps, rfl, hZ, hpe, hp96, hb6⟩
        have hP6 := hP5.keep hb6 hb6.size
        have hB6 := hB5.trans (hb6.mono hB5.size)
        have HQ := Lib.hid (equalPartsR_same Az Z cz cz2 qs ps w6 hP6 hZ (by omega) (HEQ.out.trans hpe.symm))
        clear hpe
        go_wp2_with fail
        refine HQ.out.mono ?_
        rintro e w7 ⟨rfl, hb7⟩
        go_wp2
        go_ret
        exact ⟨rfl, hB6.trans (hb7.mono hB6.size)⟩
  · have HE : Hid (r = ([], n)) := HR.out.symm.trans (chooseP_bad (by unfold chooseE; rw [if_pos (by rw [HN.out]; exact hn0), HN.out]) hn0)
    obtain rfl : r = ([], n) := HE.out
    obtain rfl : z = .slice none 0 0 := HZ0.out hn0
    have q1 : (n == 0) = false := by simpa using hn0
    have q2 : (n != 0) = true := by simpa using hn0
    have q3 : (n == n) = true := by simp
    clear hn0 HZ0 HZ1
    go_wp2_with fail
    go_ret
    exact ⟨rfl, hB4⟩
end Go.Proofs.YtmlomnhjbmocfaaDoor
