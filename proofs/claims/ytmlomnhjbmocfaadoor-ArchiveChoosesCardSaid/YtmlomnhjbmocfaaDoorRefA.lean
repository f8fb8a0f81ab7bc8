/- ropewalkref.IsName, IsAlign, LongOf: what they compute. -/
import Derived.Test.YtmlomnhjbmocfaaDoorBA
import Derived.Test.YtmlomnhjbmocfaaDoorB1
import Derived.Test.YtmlomnhjbmocfaaDoorTrimP
set_option linter.all false
namespace Go.Proofs.YtmlomnhjbmocfaaDoor
open Go.RowKit Go.Shelf Go.Lib

def nameSet : ByteArray := ⟨#[97, 98, 99, 100, 101, 102, 103, 104, 105, 106, 107, 108, 109, 110, 111, 112, 113, 114, 115, 116, 117, 118, 119, 120, 121, 122, 48, 49, 50, 51, 52, 53, 54, 55, 56, 57, 95]⟩
theorem nameSet_all : ∀ n : Fin 256, nameC (UInt8.ofNat n) = nameSet.data.toList.contains (UInt8.ofNat n) := by decide +kernel
theorem nameSet_has (c : UInt8) : nameSet.data.toList.contains c = nameC c := by
  have := nameSet_all ⟨c.toNat, c.toNat_lt⟩
  simp only [UInt8.ofNat_toNat] at this
  exact this.symm
theorem dw_nil {p : UInt8 → Bool} : ∀ {l : List UInt8}, l.dropWhile p = [] ↔ l.all p = true
  | [] => by simp
  | a :: r => by
    rw [List.dropWhile_cons, List.all_cons]
    by_cases h : p a = true
    · rw [if_pos h, h, Bool.true_and]; exact dw_nil
    · rw [if_neg h]; simp [h]
theorem dw_all {p : UInt8 → Bool} : ∀ {l : List UInt8}, (l.dropWhile p).all p = true → l.dropWhile p = []
  | [], _ => rfl
  | a :: r, hh => by
    rw [List.dropWhile_cons] at hh ⊢
    by_cases h : p a = true
    · rw [if_pos h] at hh ⊢; exact dw_all hh
    · rw [if_neg h, List.all_cons] at hh; simp [h] at hh
theorem trim_nil {l cs : List UInt8} : trimS l cs = [] ↔ l.all (cs.contains ·) = true := by
  unfold trimS trimLeftS trimRightS
  rw [dw_nil, List.all_reverse]
  constructor
  · intro h
    have := dw_nil.1 (dw_all h)
    rwa [List.all_reverse] at this
  · intro h
    have : l.reverse.dropWhile (cs.contains ·) = [] := dw_nil.2 (by rwa [List.all_reverse])
    rw [this]; rfl
theorem trim_name {s : ByteArray} : (⟨(trimS s.data.toList nameSet.data.toList).toArray⟩ : ByteArray).toList.isEmpty = s.data.toList.all nameC := by
  have e : (⟨(trimS s.data.toList nameSet.data.toList).toArray⟩ : ByteArray).toList = trimS s.data.toList nameSet.data.toList := by rw [ByteArray.toList_eq]
  have e2 : s.data.toList.all (nameSet.data.toList.contains ·) = s.data.toList.all nameC := by
    congr 1
    funext c
    exact nameSet_has c
  rw [e, ← e2]
  rcases h : s.data.toList.all (nameSet.data.toList.contains ·) with _ | _
  · rcases h2 : trimS s.data.toList nameSet.data.toList with _ | ⟨a, r⟩
    · rw [trim_nil.1 h2] at h; cases h
    · rfl
  · rw [trim_nil.2 h]; rfl

theorem nameB_no' {s : ByteArray} (h : s.size = 0 ∨ 8 < s.size) : nameB s = false := by
  unfold nameB
  rcases h with h | h
  · simp [h]
  · rw [show decide (s.size ≤ 8) = false from decide_eq_false (by omega)]; simp

set_option maxHeartbeats 1000000 in
theorem isName_any (s : ByteArray) (w : World) : Calls Tryd.prog 20 #[.string s] w fun e w' => e = .returned (.bool (nameB s)) ∧ Below w.heap.size w w' := by
  by_cases h : 1 ≤ s.size ∧ s.size ≤ 8
  · obtain ⟨h1, h8⟩ := h
    have hcon := Any.strings_Trim_laid Tryd.lays160 (by kernel_rfl) s nameSet w (by omega) (by decide) (ascii_of_all (by decide))
    change Calls Tryd.prog 52 _ _ (fun e w' => e = .returned (.string ⟨(trimS s.data.toList nameSet.data.toList).toArray⟩) ∧ Below w.heap.size w w') at hcon
    have ht := trim_name (s := s)
    have HB : Hid (nameB s = s.data.toList.all nameC) := by
      show nameB s = _
      unfold nameB
      rw [decide_eq_true (by omega : 0 < s.size), decide_eq_true h8]; simp
    generalize (⟨(trimS s.data.toList nameSet.data.toList).toArray⟩ : ByteArray) = r at hcon ht
    obtain ⟨b, hb⟩ : ∃ b, s.data.toList.all nameC = b := ⟨_, rfl⟩
    rw [hb] at ht HB
    have t1 : decide ((1 : Int) ≤ (s.size : Int)) = true := decide_eq_true (by omega)
    have t2 : decide ((s.size : Int) ≤ 8) = true := decide_eq_true (by omega)
    unfold nameSet at hcon
    clear hb h1 h8
    go_enter Tryd.func20, Tryd.ntmps20
    go_wp2_with (go_at_call 52; refine hcon.mono ?_; rintro e w' ⟨rfl, hB⟩)
    go_ret
    exact ⟨ret_val (by rw [HB.out]; first | rfl | (cases b <;> rfl)), hB⟩
  · have HB : Hid (nameB s = false) := nameB_no' (by omega)
    by_cases h1 : 1 ≤ s.size
    · have t1 : decide ((1 : Int) ≤ (s.size : Int)) = true := decide_eq_true (by omega)
      have t2 : decide ((s.size : Int) ≤ 8) = false := decide_eq_false (by omega)
      clear h h1
      go_enter Tryd.func20, Tryd.ntmps20
      go_wp2
      go_ret
      exact ⟨ret_val (by rw [HB.out]; rfl), Below.refl _ _⟩
    · have t1 : decide ((1 : Int) ≤ (s.size : Int)) = false := decide_eq_false (by omega)
      clear h h1
      go_enter Tryd.func20, Tryd.ntmps20
      go_wp2
      go_ret
      exact ⟨ret_val (by rw [HB.out]; rfl), Below.refl _ _⟩

set_option maxHeartbeats 1000000 in
theorem longOf_any (x : FgM) (w : World) : Calls Tryd.prog 34 #[.agg #[.int .i64 x.f.sect, .int .i64 x.f.align, .string x.f.group, .slice x.ba x.f.bs.length x.bc, .int .i64 x.f.size, .slice x.ra x.f.rs.length x.rc]] w fun e w' => e = .returned (.int .i64 x.f.long) ∧ Below w.heap.size w w' := by
  by_cases h : x.f.sect = 5
  · have HL : Hid (x.f.long = x.f.size) := by show x.f.long = _; unfold Frg.long; rw [if_pos h]
    have h' : (x.f.sect == 5) = true := by simpa using h
    clear h
    go_enter Tryd.func34, Tryd.ntmps34
    go_wp2
    go_ret
    exact ⟨ret_val (by rw [HL.out]; rfl), by (repeat' (first | exact Below.refl _ _ | assumption | refine Below.setCell ?_ (by first | omega | exact Below.size (by assumption) | (simp; done) | (simp; omega)) _ | refine Below.alloc ?_ (by first | omega | exact Below.size (by assumption) | (simp; done) | (simp; omega)) _ | refine Below.drew ?_ | refine below_drewN ?_ _))⟩
  · have HL : Hid (x.f.long = x.f.bs.length) := by show x.f.long = _; unfold Frg.long; rw [if_neg h]
    have h' : (x.f.sect == 5) = false := by simpa using h
    clear h
    go_enter Tryd.func34, Tryd.ntmps34
    go_wp2
    go_ret
    exact ⟨ret_val (by rw [HL.out]; rfl), by (repeat' (first | exact Below.refl _ _ | assumption | refine Below.setCell ?_ (by first | omega | exact Below.size (by assumption) | (simp; done) | (simp; omega)) _ | refine Below.alloc ?_ (by first | omega | exact Below.size (by assumption) | (simp; done) | (simp; omega)) _ | refine Below.drew ?_ | refine below_drewN ?_ _))⟩
end Go.Proofs.YtmlomnhjbmocfaaDoor
