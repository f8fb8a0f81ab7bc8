/- slices.Index, Contains at pairs of numbers. -/
import Derived.Test.YtmlomnhjbmocfaaDoorAllW
import Derived.ChangeKeysEq
set_option linter.all false
namespace Go.Proofs.YtmlomnhjbmocfaaDoor
open Go.RowKit

def prC (p : Nat × Nat) : List Value := [.int .i64 p.1, .int .i64 p.2]
def prV (F : List (Nat × Nat)) : List Value := F.flatMap prC
theorem pair0 (a b : Int) (w : World) : (part 3 #[.int .i64 a, .int .i64 b] (0 * Tryd.prog.cellsOf 3)).run Tryd.prog w = .ok (.int .i64 a) w := by kernel_rfl
theorem pair1 (a b : Int) (w : World) : (part 3 #[.int .i64 a, .int .i64 b] (1 * Tryd.prog.cellsOf 3)).run Tryd.prog w = .ok (.int .i64 b) w := by kernel_rfl
theorem pair1b (a b : Int) (w : World) : (part 3 #[.int .i64 a, .int .i64 b] (Tryd.prog.cellsOf 3)).run Tryd.prog w = .ok (.int .i64 b) w := by kernel_rfl
theorem pair_eql (a b c d : Nat) (w : World) : (Op.equalIn 10000 97 (.agg #[.int .i64 a, .int .i64 b]) (.agg #[.int .i64 c, .int .i64 d])).run Tryd.prog w = .ok (decide ((c, d) = (a, b))) w := by
  obtain ⟨i, hi⟩ := info_of_underlying (P := Tryd.prog) Tryd.underlying3
  rw [run_equalIn_array (P := Tryd.prog) w 9999 _ _ Tryd.underlying97 hi, show List.range 2 = [0, 1] from rfl]
  simp only [Op.eqItems, Sem.run_bind, pair0, pair1, Result.andThen_ok, run_equalIn_int w 9998 _ _ _ _ _ Tryd.underlying3]
  by_cases h1 : c = a
  · subst h1
    by_cases h2 : d = b
    · subst h2; simp [pair1b, run_equalIn_int w 9998 _ _ _ _ _ Tryd.underlying3]
    · have : ¬ ((b : Int) = d) := by omega
      have h3 : ¬ (b = d) := fun e => h2 e.symm
      simp [this, h2, h3, pair1b, run_equalIn_int w 9998 _ _ _ _ _ Tryd.underlying3]
  · have : ¬ ((a : Int) = c) := by omega
    have h3 : ¬ (a = c) := fun e => h1 e.symm
    simp [this, h1, h3]
theorem pr_get {w : World} {B : Nat} {A : Option Addr} {F : List (Nat × Nat)} (h : Reads w B 2 A F.length (prV F)) {i : Nat} {x : Nat × Nat} (hx : F[i]? = some x) :
    ∃ b off, A = some ⟨b, off, none⟩ ∧ b < B ∧ w.cell? ⟨b, off + i * 2, none⟩ = some (.int .i64 x.1) ∧ w.cell? ⟨b, off + i * 2 + 1, none⟩ = some (.int .i64 x.2) := by
  obtain ⟨b, off, e, hb, hc⟩ := cells_get (cells := prC) (fun _ => rfl) h hx
  exact ⟨b, off, e, hb, hc 0 _ rfl, hc 1 _ rfl⟩

set_option maxHeartbeats 4000000 in
theorem idxPr_any (A : Option Addr) (c : Nat) (F : List (Nat × Nat)) (i k : Nat) (w : World) (h : Reads w w.heap.size 2 A F.length (prV F)) (hm : F.length ≤ 1000000) :
    Calls Tryd.prog 96 #[.slice A F.length c, .agg #[.int .i64 i, .int .i64 k]] w fun e w' => ∃ n : Int, e = .returned (.int .i64 n) ∧ decide (0 ≤ n) = decide ((i, k) ∈ F) ∧ Below w.heap.size w w' := by
  have kB := Blk.new w 97 #[.int .i64 (i : Int), .int .i64 (k : Int)]
  have hb0 : Below w.heap.size w (w.alloc (.cells #[.int .i64 (i : Int), .int .i64 (k : Int)] 97)) := by (repeat' (first | exact Below.refl _ _ | assumption | refine Below.setCell ?_ (by first | omega | exact Below.size (by assumption) | (simp; done) | (simp; omega)) _ | refine Below.alloc ?_ (by first | omega | exact Below.size (by assumption) | (simp; done) | (simp; omega)) _ | refine Below.drew ?_ | refine below_drewN ?_ _))
  go_enter Tryd.func96, Tryd.ntmps96
  go_wp2_with fail
  obtain ⟨gB, hgB⟩ : ∃ g, g = w.heap.size := ⟨_, rfl⟩
  obtain ⟨W, hW⟩ : ∃ W', W' = w.alloc (.cells #[.int .i64 (i : Int), .int .i64 (k : Int)] 97) := ⟨_, rfl⟩
  rw [← hW] at hb0 kB ⊢
  rw [← hgB] at kB ⊢
  clear hW hgB
  go_loopw [8] (fun v wr => ∃ j : Nat, j ≤ F.length ∧ v = .int .i64 j ∧ Hid (∀ x ∈ F.take j, x ≠ (i, k)) ∧ Below W.heap.size W wr) (fun v _ => F.length - (intOf v).toNat)
  case atStart => exact ⟨0, Nat.zero_le _, rfl, Lib.hid (by simp), Below.refl _ _⟩
  case round =>
    obtain ⟨j, hj, rfl, hn, hb⟩ := hrel
    by_cases hlt : j < F.length
    · obtain ⟨x, hx⟩ : ∃ x, F[j]? = some x := ⟨_, List.getElem?_eq_getElem hlt⟩
      obtain ⟨b, off, hA, bl, c0, c1⟩ := pr_get ((h.below hb0).below (hb.mono hb0.size)) hx
      obtain ⟨a, d⟩ := x
      dsimp only at c0 c1
      have HX := Lib.hid hx
      have b0 := (kB.all hb).cell 0
      have b1 := (kB.all hb).cell 1
      have HE := pair_eql i k a d
      rw [hA]
      clear hx hA
      by_cases hxe : (a, d) = (i, k)
      · rw [decide_eq_true hxe] at HE
        have HI : Hid ((i, k) ∈ F) := by show _ ∈ F; rw [← hxe]; exact List.mem_of_getElem? HX.out
        clear hxe
        go_wp2_with fail
        go_quiet (fail)
        go_wp2
        go_ret
        exact ⟨j, rfl, by simp [HI.out], hb0.trans ((by (repeat' (first | exact Below.refl _ _ | assumption | refine Below.setCell ?_ (by first | omega | exact Below.size (by assumption) | (simp; done) | (simp; omega)) _ | refine Below.alloc ?_ (by first | omega | exact Below.size (by assumption) | (simp; done) | (simp; omega)) _ | refine Below.drew ?_ | refine below_drewN ?_ _)) : Below W.heap.size W _).mono hb0.size)⟩
      · rw [decide_eq_false hxe] at HE
        have HN : Hid (∀ x ∈ F.take (j + 1), x ≠ (i, k)) := by
          show ∀ x ∈ F.take (j + 1), x ≠ (i, k)
          rw [List.take_add_one, HX.out]
          intro y hy
          rcases List.mem_append.1 hy with hy | hy
          · exact hn.out y hy
          · obtain rfl : y = (a, d) := by simpa using hy
            exact hxe
        clear hxe
        go_wp2_with fail
        go_quiet (fail)
        go_wp2
        go_roundw
        case rel => exact ⟨j + 1, by omega, by go_num, HN, by (repeat' (first | exact Below.refl _ _ | assumption | refine Below.setCell ?_ (by first | omega | exact Below.size (by assumption) | (simp; done) | (simp; omega)) _ | refine Below.alloc ?_ (by first | omega | exact Below.size (by assumption) | (simp; done) | (simp; omega)) _ | refine Below.drew ?_ | refine below_drewN ?_ _))⟩
        case measure => simp [intOf]; omega
    · obtain rfl : j = F.length := by omega
      have HI : Hid ((i, k) ∉ F) := fun hm => hn.out _ (by rw [List.take_length]; exact hm) rfl
      go_wp2
      go_ret
      exact ⟨-1, rfl, by simp [HI.out], hb0.trans (hb.mono hb0.size)⟩

set_option maxHeartbeats 1000000 in
theorem containsPr_any (A : Option Addr) (c : Nat) (F : List (Nat × Nat)) (i k : Nat) (w : World) (h : Reads w w.heap.size 2 A F.length (prV F)) (hm : F.length ≤ 1000000) :
    Calls Tryd.prog 55 #[.slice A F.length c, .agg #[.int .i64 i, .int .i64 k]] w fun e w' => e = .returned (.bool (decide ((i, k) ∈ F))) ∧ Below w.heap.size w w' := by
  have kB := Blk.new w 97 #[.int .i64 (i : Int), .int .i64 (k : Int)]
  have hb0 : Below w.heap.size w (w.alloc (.cells #[.int .i64 (i : Int), .int .i64 (k : Int)] 97)) := by (repeat' (first | exact Below.refl _ _ | assumption | refine Below.setCell ?_ (by first | omega | exact Below.size (by assumption) | (simp; done) | (simp; omega)) _ | refine Below.alloc ?_ (by first | omega | exact Below.size (by assumption) | (simp; done) | (simp; omega)) _ | refine Below.drew ?_ | refine below_drewN ?_ _))
  have HI := Lib.hid (idxPr_any A c F i k _ ((h.below hb0).more hb0.size) hm)
  have b0 := kB.cell 0
  have b1 := kB.cell 1
  clear kB
  go_enter Tryd.func55, Tryd.ntmps55
  go_wp2_with fail
  refine HI.out.mono ?_
  rintro e w2 ⟨n, rfl, hn, hb2⟩
  have HN := Lib.hid hn
  clear hn
  go_wp2
  go_ret
  exact ⟨ret_val (by rw [← HN.out]; rfl), hb0.trans (hb2.mono hb0.size)⟩
end Go.Proofs.YtmlomnhjbmocfaaDoor
