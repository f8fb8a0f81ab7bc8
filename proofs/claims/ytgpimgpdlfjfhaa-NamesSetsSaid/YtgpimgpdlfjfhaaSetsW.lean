/- slices.IsSorted, slices.ContainsFunc over strings, as NamesSets calls them. -/
import Derived.Test.YtgpimgpdlfjfhaaLackW
import Derived.Test.YtgpimgpdlfjfhaaSetsD
import Derived.Deep.RegionHeld3
namespace Go.Proofs.Ytgpimgpdlfjfhaa
open Go.RowKit

set_option maxHeartbeats 4000000 in
set_option maxRecDepth 100000 in
theorem isSorted_any (A : Option Addr) (c : Nat) (l : List ByteArray) (w : World) (hR : Reads w w.heap.size 1 A l.length (strsV l)) (hs : Rising (l.map keyOf)) (hlm : l.length ≤ 100000) :
    Calls Try.prog 44 #[.slice A l.length c] w fun e w' => e = .returned (.bool true) ∧ Below w.heap.size w w' := by
  have HS := Lib.hid hs
  clear hs
  go_enter Try.func44, Try.ntmps44
  go_wp2_with fail
  go_loopw [3] (fun i wr => ∃ k : Nat, k ≤ l.length ∧ i = .int .i64 ((k : Int) - 1) ∧ Below w.heap.size w wr) (fun i _ => (intOf i).toNat)
  case atStart => exact ⟨l.length, Nat.le_refl _, by go_num, Below.refl _ _⟩
  case round =>
    obtain ⟨k, hk, rfl, hb⟩ := hrel
    by_cases h2 : 2 ≤ k
    · obtain ⟨m, rfl⟩ : ∃ m, k = m + 2 := ⟨k - 2, by omega⟩
      obtain ⟨x, hx⟩ : ∃ x, l[m]? = some x := ⟨_, List.getElem?_eq_getElem (by omega)⟩
      obtain ⟨y, hy⟩ : ∃ y, l[m + 1]? = some y := ⟨_, List.getElem?_eq_getElem (by omega)⟩
      obtain ⟨b, off, rfl, cx⟩ := str_get (hR.below hb) hx
      obtain ⟨b', off', he, cy⟩ := str_get (hR.below hb) hy
      obtain ⟨rfl, rfl⟩ : b = b' ∧ off = off' := by
        simp only [Option.some.injEq, Addr.mk.injEq, and_true] at he
        exact he
      have hle := rising_le HS.out hx hy (Nat.lt_succ_self m)
      have hD : decide (keyOf y < keyOf x) = false := decide_eq_false fun hlt => hle.2 (List.le_antisymm hle.1 (List.not_lt.1 fun h => List.lt_asymm hlt h))
      clear hle hx hy he
      rw [show (((m + 2 : Nat) : Int) - 1) = (m : Int) + 1 by omega]
      have hm1 : m + 1 < l.length := by omega
      have hm0 : (m : Int) + 1 - 1 = m := by omega
      have hm2 : (0 : Int) ≤ (m : Int) + 1 := by omega
      have hm3 : (m : Int) + 1 < (l.length : Int) := by omega
      have hm4 : (m : Int) < (l.length : Int) := by omega
      have hm5 : m < l.length := by omega
      have hm8 : IntKind.i64.wrap (m : Int) = m := by rw [IntKind.wrap_i64]; omega
      have hpos : decide ((0 : Int) < (m : Int) + 1) = true := decide_eq_true (by omega)
      go_upto_region 4 with (fail)
      refine wp_region_held_drew (S := (fun w' => w'.cell? ⟨b, off + m, none⟩ = some (.string x) ∧ w'.cell? ⟨b, off + (m + 1), none⟩ = some (.string y))) (by kernel_rfl) ⟨cx, cy⟩ (fun hHeld => ?_)
      (refine wpAnyH_take (i := 0) (oi := { dst := some 11, op := Op.move (Operand.tmp 0), type := 67, pos := "sort.go:44", after := #[], guard := none }) (v := ?_) rfl (by kernel_rfl) (by kernel_rfl) (by kernel_rfl) (fun _ _ _ h => h) (Or.inl ⟨by rfl, ?_⟩) (by assumption) ?_; rotate_left; (focus (intro w hSw; (try dsimp only at hSw); go_simp; (try with_reducible rfl))); (try simp only [Act.put, List.setIfInBounds_toArray, List.set_cons_zero, List.set_cons_succ]))
      (refine wpAnyH_take (i := 1) (oi := { dst := some 12, op := Op.move (Operand.tmp 3), type := 3, pos := "sort.go:44", after := #[], guard := none }) (v := ?_) rfl (by kernel_rfl) (by kernel_rfl) (by kernel_rfl) (fun _ _ _ h => h) (Or.inl ⟨by rfl, ?_⟩) (by assumption) ?_; rotate_left; (focus (intro w hSw; (try dsimp only at hSw); go_simp; (try with_reducible rfl))); (try simp only [Act.put, List.setIfInBounds_toArray, List.set_cons_zero, List.set_cons_succ]))
      (refine wpAnyH_take (i := 2) (oi := { dst := some 13, op := Op.indexAddr 67 (Operand.tmp 11) (Operand.tmp 12), type := 0, pos := "sort.go:44", after := #[{ on := 0, ground := Ground.data }, { on := 1, ground := Ground.data }], guard := none }) (v := ?_) rfl (by kernel_rfl) (by kernel_rfl) (by kernel_rfl) (fun _ _ _ h => h) (Or.inl ⟨by rfl, ?_⟩) (by assumption) ?_; rotate_left; (focus (intro w hSw; (try dsimp only at hSw); go_simp; (try with_reducible rfl))); (try simp only [Act.put, List.setIfInBounds_toArray, List.set_cons_zero, List.set_cons_succ]))
      (refine wpAnyH_take (i := 3) (oi := { dst := some 14, op := Op.load 9 (Operand.tmp 13), type := 9, pos := "sort.go:44", after := #[{ on := 2, ground := Ground.data }], guard := none }) (v := ?_) rfl (by kernel_rfl) (by kernel_rfl) (by kernel_rfl) (fun _ _ _ h => h) (Or.inl ⟨by rfl, ?_⟩) (by assumption) ?_; rotate_left; (focus (intro w hSw; (try dsimp only at hSw); go_simp; (try with_reducible rfl))); (try simp only [Act.put, List.setIfInBounds_toArray, List.set_cons_zero, List.set_cons_succ]))
      (refine wpAnyH_take (i := 4) (oi := { dst := some 15, op := Op.move (Operand.tmp 0), type := 67, pos := "sort.go:44", after := #[], guard := none }) (v := ?_) rfl (by kernel_rfl) (by kernel_rfl) (by kernel_rfl) (fun _ _ _ h => h) (Or.inl ⟨by rfl, ?_⟩) (by assumption) ?_; rotate_left; (focus (intro w hSw; (try dsimp only at hSw); go_simp; (try with_reducible rfl))); (try simp only [Act.put, List.setIfInBounds_toArray, List.set_cons_zero, List.set_cons_succ]))
      (refine wpAnyH_take (i := 5) (oi := { dst := some 16, op := Op.move (Operand.tmp 3), type := 3, pos := "sort.go:44", after := #[], guard := none }) (v := ?_) rfl (by kernel_rfl) (by kernel_rfl) (by kernel_rfl) (fun _ _ _ h => h) (Or.inl ⟨by rfl, ?_⟩) (by assumption) ?_; rotate_left; (focus (intro w hSw; (try dsimp only at hSw); go_simp; (try with_reducible rfl))); (try simp only [Act.put, List.setIfInBounds_toArray, List.set_cons_zero, List.set_cons_succ]))
      (refine wpAnyH_take (i := 6) (oi := { dst := some 17, op := Op.binOp BinOp.sub 3 (Operand.tmp 16) (Operand.const (Value.int IntKind.i64 1)) 3, type := 3, pos := "sort.go:44", after := #[{ on := 5, ground := Ground.data }], guard := none }) (v := ?_) rfl (by kernel_rfl) (by kernel_rfl) (by kernel_rfl) (fun _ _ _ h => h) (Or.inl ⟨by rfl, ?_⟩) (by assumption) ?_; rotate_left; (focus (intro w hSw; (try dsimp only at hSw); go_simp; (try with_reducible rfl))); (try simp only [Act.put, List.setIfInBounds_toArray, List.set_cons_zero, List.set_cons_succ]))
      (refine wpAnyH_take (i := 7) (oi := { dst := some 18, op := Op.indexAddr 67 (Operand.tmp 15) (Operand.tmp 17), type := 0, pos := "sort.go:44", after := #[{ on := 4, ground := Ground.data }, { on := 6, ground := Ground.data }], guard := none }) (v := ?_) rfl (by kernel_rfl) (by kernel_rfl) (by kernel_rfl) (fun _ _ _ h => h) (Or.inl ⟨by rfl, ?_⟩) (by assumption) ?_; rotate_left; (focus (intro w hSw; (try dsimp only at hSw); go_simp; (try with_reducible rfl))); (try simp only [Act.put, List.setIfInBounds_toArray, List.set_cons_zero, List.set_cons_succ]))
      (refine wpAnyH_take (i := 8) (oi := { dst := some 19, op := Op.load 9 (Operand.tmp 18), type := 9, pos := "sort.go:44", after := #[{ on := 7, ground := Ground.data }], guard := none }) (v := ?_) rfl (by kernel_rfl) (by kernel_rfl) (by kernel_rfl) (fun _ _ _ h => h) (Or.inl ⟨by rfl, ?_⟩) (by assumption) ?_; rotate_left; (focus (intro w hSw; (try dsimp only at hSw); go_simp; (try with_reducible rfl))); (try simp only [Act.put, List.setIfInBounds_toArray, List.set_cons_zero, List.set_cons_succ]))
      (refine wpAnyH_ready (rs := [9]) (by kernel_rfl) (by simp) ?_; refine AllReadyH.cons (o := { dst := some 20, op := Op.call { callee := Callee.value (Operand.func 92), args := #[Operand.tmp 14, Operand.tmp 19], argTypes := #[9, 9] }, type := 4, pos := "sort.go:44", after := #[{ on := 3, ground := Ground.data }, { on := 8, ground := Ground.data }], guard := none }) rfl (fun K hK => ?_) AllReadyH.nil; go_simp; (go_at_call 92; refine (less_any _ _ _).mono ?_; rintro e w' ⟨rfl, rfl⟩; rw [hD]); go_wp2_with fail; refine hK.out _ _ ?_ (fun hHeld => ?_); (focus ((try dsimp only); go_keep)); clear hK K; (try simp only [Act.put, List.setIfInBounds_toArray, List.set_cons_zero, List.set_cons_succ]))
      refine wpAnyH_done (by kernel_rfl) ?_ _
      go_wp2
      go_roundw
      case rel => exact ⟨m + 1, by omega, by go_num, hb.drew⟩
      case measure => simp [intOf]
    · have q0 : decide ((0 : Int) < (k : Int) - 1) = false := decide_eq_false (by omega)
      go_wp2
      go_ret
      exact ⟨rfl, hb⟩

theorem sets1_any (AD : Option Addr) (cD : Nat) (D : List ByteArray) (gD : Nat) (s : ByteArray) (w : World) (kD : Blk w gD 67 #[.slice AD D.length cD]) (hD : Reads w w.heap.size 1 AD D.length (strsV D)) (hdm : D.length ≤ 9223372036854775807) :
    Calls Try.prog 46 #[.string s, .pointer (some ⟨gD, 0, none⟩)] w fun e w' => e = .returned (.bool (decide (s ∈ D))) ∧ w' = w := by
  have HC := Lib.hid (containsStr_any AD cD D s w hD hdm)
  have q0 := kD.cell 0
  go_enter Try.func46, Try.ntmps46
  go_wp2_with fail
  refine HC.out.mono ?_
  rintro e w1 ⟨rfl, rfl⟩
  go_wp2
  go_ret
  exact ⟨rfl, rfl⟩
set_option maxHeartbeats 4000000 in
theorem idxSets_any (A : Option Addr) (c : Nat) (l : List ByteArray) (AD : Option Addr) (cD : Nat) (D : List ByteArray) (gD : Nat) (w : World) (hR : Reads w w.heap.size 1 A l.length (strsV l)) (hlm : l.length ≤ 9223372036854775807)
    (kD : Blk w gD 67 #[.slice AD D.length cD]) (hD : Reads w w.heap.size 1 AD D.length (strsV D)) (hdm : D.length ≤ 9223372036854775807) (hno : ∀ s ∈ l, s ∉ D) :
    Calls Try.prog 93 #[.slice A l.length c, .func (.func 46) #[] #[.pointer (some ⟨gD, 0, none⟩)]] w
      fun e w' => e = .returned (.int .i64 (-1)) ∧ w' = w := by
  have HL := Lib.hid fun s => sets1_any AD cD D gD s w kD hD hdm
  have HN := Lib.hid hno
  clear hno
  go_enter Try.func93, Try.ntmps93
  go_wp2_with fail
  go_loopw [8] (fun i wr => ∃ k : Nat, k ≤ l.length ∧ i = .int .i64 k ∧ wr = w) (fun i _ => l.length - (intOf i).toNat)
  case atStart => exact ⟨0, Nat.zero_le _, rfl, rfl⟩
  case round =>
    obtain ⟨k, hk, rfl, rfl⟩ := hrel
    by_cases hlt : k < l.length
    · obtain ⟨x, hx⟩ : ∃ x, l[k]? = some x := ⟨_, List.getElem?_eq_getElem hlt⟩
      obtain ⟨b, off, rfl, cm⟩ := str_get hR hx
      have HCx := HL.out x
      rw [decide_eq_false (HN.out x (List.mem_of_getElem? hx))] at HCx
      replace HCx := Lib.hid HCx
      clear hx
      go_wp2_with (go_at_call 46; refine HCx.out.mono ?_; rintro e w' ⟨rfl, rfl⟩)
      go_roundw
      case rel => exact ⟨k + 1, by omega, by go_num, by first | rfl | trivial⟩
      case measure => simp [intOf]; omega
    · obtain rfl : k = l.length := by omega
      go_wp2
      go_ret
      exact ⟨rfl, rfl⟩
theorem csets_any (A : Option Addr) (c : Nat) (l : List ByteArray) (AD : Option Addr) (cD : Nat) (D : List ByteArray) (gD : Nat) (w : World) (hR : Reads w w.heap.size 1 A l.length (strsV l)) (hlm : l.length ≤ 9223372036854775807)
    (kD : Blk w gD 67 #[.slice AD D.length cD]) (hD : Reads w w.heap.size 1 AD D.length (strsV D)) (hdm : D.length ≤ 9223372036854775807) (hno : ∀ s ∈ l, s ∉ D) :
    Calls Try.prog 45 #[.slice A l.length c, .func (.func 46) #[] #[.pointer (some ⟨gD, 0, none⟩)]] w
      fun e w' => e = .returned (.bool false) ∧ w' = w := by
  have HI := Lib.hid (idxSets_any A c l AD cD D gD w hR hlm kD hD hdm hno)
  clear hno
  go_enter Try.func45, Try.ntmps45
  go_wp2_with fail
  refine HI.out.mono ?_
  rintro e w1 ⟨rfl, rfl⟩
  go_wp2
  go_ret
  exact ⟨rfl, rfl⟩
end Go.Proofs.Ytgpimgpdlfjfhaa
