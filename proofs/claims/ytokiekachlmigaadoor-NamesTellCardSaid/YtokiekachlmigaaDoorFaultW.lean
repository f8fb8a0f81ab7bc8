/- names.Faults: what it computes. -/
import Derived.Test.YtokiekachlmigaaDoorNameW
import Derived.Test.YtokiekachlmigaaDoorDropW
set_option linter.all false
namespace Go.Proofs.YtokiekachlmigaaDoor
open Go.RowKit

/-- What is wrong with a name. -/
structure Flt where
  e : Int
  name : ByteArray
def Flt.cells (f : Flt) : List Value := [.int .i64 (f.e), .string (f.name), .int .i64 0, .int .i64 0]
def fltsV (l : List Flt) : List Value := l.flatMap Flt.cells
theorem fltsV_append (l m : List Flt) : fltsV (l ++ m) = fltsV l ++ fltsV m := by unfold fltsV; rw [List.flatMap_append]
def fltOf (dfs : List Df) (s : ByteArray) : Option Flt := if (findL dfs s).2 = 0 then none else some ⟨(findL dfs s).2, s⟩
def faultsP (p : Prt) : List Flt := (setS (wantedP p ++ definedP p)).filterMap (fltOf p.dfs)
theorem flt_one (f : Flt) : ∀ u ∈ f.cells, u.oneCell' = true := by
  intro u hu
  simp [Flt.cells] at hu
  rcases hu with rfl | rfl | rfl | rfl <;> rfl
theorem Tryd.infoFlt : (Tryd.prog.info? 44).map (fun i => (i.zero, i.size, i.bytes)) = some (some (.agg #[.int .i64 0, .string ⟨#[]⟩, .int .i64 0, .int .i64 0]), 4, 40) := by kernel_rfl
theorem str_get {w : World} {B : Nat} {A : Option Addr} {l : List ByteArray} (h : Reads w B 1 A l.length (strsV l)) {i : Nat} {s : ByteArray} (hx : l[i]? = some s) : ∃ b off, A = some ⟨b, off, none⟩ ∧ w.cell? ⟨b, off + i, none⟩ = some (.string s) := by
  rw [strsV_flat] at h
  obtain ⟨b, off, e, hb, hc⟩ := cells_get (cells := fun s : ByteArray => [.string s]) (fun _ => rfl) h hx
  exact ⟨b, off, e, by simpa using hc 0 _ rfl⟩
theorem strs_one (l : List ByteArray) : ∀ u ∈ strsV l, u.oneCell' = true := by
  intro u hu
  obtain ⟨s, _, rfl⟩ := List.mem_map.1 hu
  rfl

def FaultsIs (w : World) (p : Prt) (e : Ending) (w' : World) : Prop :=
  ∃ v, e = .returned (.tuple #[v, .int .i64 (ckPart p)]) ∧ (ckPart p ≠ 0 → v = .slice none 0 0) ∧ (ckPart p = 0 → w'.ownsRow w.heap.size 44 4 v (faultsP p).length (fltsV (faultsP p))) ∧ Below w.heap.size w w'

set_option maxHeartbeats 8000000 in
set_option maxRecDepth 100000 in
theorem faults_any (p : PtM) (w : World) (h : p.At w w.heap.size) :
    Calls Tryd.prog 13 #[.agg #[.slice p.fa p.frs.length p.fc, .slice p.da p.dfs.length p.dc]] w (FaultsIs w p.er) := by
  obtain ⟨i0, hi, hz0, hz1, hz2⟩ := info_parts Tryd.infoStr
  obtain ⟨i1, hi1, hw0, hw1, hw2⟩ := info_parts Tryd.infoFlt
  have hb0 : Below w.heap.size w (w.alloc (.cells #[.slice (p).fa (p).frs.length (p).fc, .slice (p).da (p).dfs.length (p).dc] 25)) := by (repeat' (first | exact Below.refl _ _ | assumption | refine Below.setCell ?_ (by first | omega | exact Below.size (by assumption) | (simp; done) | (simp; omega)) _ | refine Below.alloc ?_ (by first | omega | exact Below.size (by assumption) | (simp; done) | (simp; omega)) _ | refine Below.drew ?_ | refine below_drewN ?_ _))
  have hP := Blk.new w 25 #[.slice p.fa p.frs.length p.fc, .slice p.da p.dfs.length p.dc]
  have h1 := h.all hb0
  unfold FaultsIs
  go_enter Tryd.func13, Tryd.ntmps13
  go_wp2_with fail
  refine (wanted_any p _ h1).mono ?_
  rintro e w1 ⟨v, rfl, hv0, hv1, hb1⟩
  by_cases hc : ckPart p.er = 0
  · have HC := Lib.hid hc
    have hW := hv1 hc
    have hsm := small_of hc
    have nf := hsm.fr
    have nd := hsm.df
    rw [HC.out]
    have kP := hP.all hb1
    have hb := hb0.trans (hb1.mono hb0.size)
    have hW := hW.mono hb0.size
    have h2 := h1.all hb1
    have wl : (wantedP p.er).length ≤ 480 := by
      have h3 := setS_len (p.er.frs.flatMap wantedF)
      have h4 : (p.er.frs.flatMap wantedF).length ≤ p.er.frs.length * 8 := by
        have : ∀ l : List FgM, (∀ x ∈ l, x.f.rs.length ≤ 8) → ((l.map FgM.f).flatMap wantedF).length ≤ l.length * 8 := by
          intro l
          induction l with
          | nil => intro _; simp
          | cons x r ih =>
            intro hx
            have h5 := ih (fun y hy => hx y (by simp [hy]))
            have h6 : (wantedF x.f).length ≤ 8 := by
              unfold wantedF
              rw [List.length_map]
              exact Nat.le_trans (List.length_filter_le ..) (hx x (by simp))
            rw [List.map_cons, List.flatMap_cons, List.length_append, List.length_cons]
            omega
        have h7 := this p.frs hsm.re
        simpa [PtM.er] using h7
      have h5 : p.er.frs.length = p.frs.length := by simp [PtM.er]
      unfold wantedP
      omega
    have dl : (definedP p.er).length ≤ 60 := by
      have h3 := setS_len (p.er.dfs.map Df.name)
      unfold definedP
      have h4 : (p.er.dfs.map Df.name).length = p.dfs.length := by simp [PtM.er]
      omega
    have HF : Hid (faultsP p.er = (setS (wantedP p.er ++ definedP p.er)).filterMap (fltOf p.dfs)) := rfl
    obtain ⟨L1, hL1⟩ : ∃ L, wantedP p.er = L := ⟨_, rfl⟩
    obtain ⟨L2, hL2⟩ : ∃ L, definedP p.er = L := ⟨_, rfl⟩
    rw [hL1] at hW wl HF
    rw [hL2] at dl HF
    obtain ⟨A1, c1, rfl, hc1, hc2⟩ := own_form hW
    have p0 := kP.cell 0
    have p1 := kP.cell 1
    clear hv0 hv1 hP hb0 hb1 h1 hc hsm
    go_wp2_with fail
    refine (defined_any p w1 h2).mono ?_
    rintro e w2 ⟨v2, rfl, hv0, hv1, hb2⟩
    have hD := (hv1 HC.out).mono hb.size
    rw [hL2] at hD
    rw [HC.out]
    have hW2 := own_all hW hb2
    have kP2 := kP.all hb2
    have hb3 := hb.trans (hb2.mono hb.size)
    obtain ⟨A2, c2, rfl, hc3, hc4⟩ := own_form hD
    clear hv0 hv1 hW kP hb hb2 h2 p0 p1 hL1 hL2
    go_wp2_with (at_builtin
                 refine wpList_append_any _ rfl (.tmp 26) (.tmp 27) 26 rfl w.heap.size 9 i0 (.string ⟨#[]⟩) 1 16 Tryd.underlying26 hi hz0 hz1 hz2 rfl (by decide) _ _ _ rfl hW2 _ A2 L2.length c2 (strsV L2) rfl (Reads.of_own hD) (strs_one _) ?c2 ?c3 ?c4 ?_
                 case c2 => unfold maxLen; omega
                 case c3 => omega
                 case c4 => exact hb3.size
                 intro v3 w3 hown3 hg3 _
                 have hb4 := below_row hb3 hb3.size hW2 hg3
                 have kP3 := kP2.grown hg3 (own_blk_ne hW2 kP2 (by decide)).symm
                 have hown3' : w3.ownsRow w.heap.size 9 1 v3 (L1 ++ L2).length (strsV (L1 ++ L2)) := by rw [strsV_append, List.length_append]; exact hown3
                 clear hg3 hown3 hW2 kP2 hD)
    have hLLl : (L1 ++ L2).length ≤ 540 := by rw [List.length_append]; omega
    obtain ⟨LL, hLL⟩ : ∃ LL, L1 ++ L2 = LL := ⟨_, rfl⟩
    rw [hLL] at HF hLLl hown3'
    clear hLL
    refine (sort_own hown3' (by omega)).mono ?_
    rintro e w4 ⟨rfl, hown4, hg4⟩
    have hb5 := below_row hb4 hb4.size hown3' hg4
    have kP4 := kP3.grown hg4 (own_blk_ne hown3' kP3 (by decide)).symm
    clear hb4 kP3 hown3' hg4
    go_wp2_with fail
    refine (compact_own hown4 (by omega)).mono ?_
    rintro e w5 ⟨v5, rfl, hown5, hg5⟩
    have hb6 := below_row hb5 hb5.size hown4 hg5
    have kP5 := kP4.grown hg5 (own_blk_ne hown4 kP4 (by decide)).symm
    have hU : (setS LL).length ≤ 540 := Nat.le_trans (setS_len _) hLLl
    replace hown5 : w5.ownsRow w.heap.size 9 1 v5 (setS LL).length (strsV (setS LL)) := hown5
    obtain ⟨U, hUU⟩ : ∃ U, setS LL = U := ⟨_, rfl⟩
    rw [hUU] at HF hU hown5
    obtain ⟨A5, c5, rfl, hc5, hc6⟩ := own_form hown5
    clear hb5 kP4 hown4 hg5 hUU hLLl
    go_wp2_with fail
    go_loopw [8, 34] (fun v i wr => ∃ (k : Nat) (out : List Flt), k ≤ U.length ∧ i = .int .i64 k ∧ Hid (out = (U.take k).filterMap (fltOf p.dfs)) ∧ out.length ≤ k ∧ wr.ownsRow w.heap.size 44 4 v out.length (fltsV out) ∧ wr.ownsRow w.heap.size 9 1 (.slice A5 U.length c5) U.length (strsV U) ∧
      Blk wr w.heap.size 25 #[.slice p.fa p.frs.length p.fc, .slice p.da p.dfs.length p.dc] ∧ Below w.heap.size w wr) (fun _ i _ => U.length - (intOf i).toNat)
    case atStart => exact ⟨0, [], Nat.zero_le _, rfl, Lib.hid (by simp), Nat.zero_le _, World.ownsRow_nil _ _ _ _, hown5, kP5, hb6⟩
    case round =>
      clear hown5 kP5 hb6
      obtain ⟨k, out, hk, rfl, ho, hol, hOut, hStr, kP, hb⟩ := hrel
      obtain ⟨A6, c6, rfl, hc7, hc8⟩ := own_form hOut
      by_cases hlt : k < U.length
      · obtain ⟨s, hs⟩ : ∃ s, U[k]? = some s := ⟨_, List.getElem?_eq_getElem hlt⟩
        obtain ⟨b, off, hA5, c0⟩ := str_get (Reads.of_own hStr) hs
        have HN : Hid ((U.take (k + 1)).filterMap (fltOf p.dfs) = out ++ (fltOf p.dfs s).toList) := by
          show _ = _
          rw [List.take_add_one, hs, List.filterMap_append, ← ho.out]
          cases hf : fltOf p.dfs s <;> simp [hf]
        rw [hA5]
        have HA5 := Lib.hid hA5
        have p0 := kP.cell 0
        have p1 := kP.cell 1
        clear hs hA5 ho
        go_wp2_with fail
        refine (find_any p s wr (h.keep hb hb.size)).mono ?_
        rintro e w7 ⟨rfl, hs7⟩
        obtain ⟨⟨d, x⟩, hd⟩ : ∃ r, findL p.dfs s = r := ⟨_, rfl⟩
        have HX : Hid (fltOf p.dfs s = if x = 0 then none else some ⟨x, s⟩) := by show _ = _; unfold fltOf; rw [hd]
        rw [hd]
        clear hd
        have hOut7 := own_all hOut hs7
        have hStr7 := own_all hStr hs7
        have kP7 := kP.all hs7
        have hb7 := hb.trans (hs7.mono hb.size)
        clear hOut hStr kP hb hs7 p0 p1 c0
        by_cases hx : x = 0
        · have HO : Hid (out = (U.take (k + 1)).filterMap (fltOf p.dfs)) := by show _ = _; rw [HN.out, HX.out, if_pos hx]; simp
          subst hx
          clear HN HX
          go_wp2
          go_roundw
          case rel => exact ⟨k + 1, out, by omega, by go_num, HO, by omega, hOut7.alloc _, by first | exact hStr7.alloc _ | (rw [HA5.out] at hStr7; exact hStr7.alloc _), kP7.alloc _, hb7.alloc hb7.size _⟩
          case measure => simp [intOf]; omega
        · have HO : Hid (out ++ [⟨x, s⟩] = (U.take (k + 1)).filterMap (fltOf p.dfs)) := by show _ = _; rw [HN.out, HX.out, if_neg hx]; rfl
          have hx0 : (x != 0) = true := by simpa using hx
          clear HN HX hx
          go_upto_region 12 with (fail)
          have hOut9 := hOut7.alloc (.cells #[.string (d).name, .int .i64 (d).kind, .int .i64 (d).frag, .int .i64 (d).at_, .int .i64 (d).size, .int .i64 (d).align] 31)
          have hStr9 := hStr7.alloc (.cells #[.string (d).name, .int .i64 (d).kind, .int .i64 (d).frag, .int .i64 (d).at_, .int .i64 (d).size, .int .i64 (d).align] 31)
          have kP9 := kP7.alloc (.cells #[.string (d).name, .int .i64 (d).kind, .int .i64 (d).frag, .int .i64 (d).at_, .int .i64 (d).size, .int .i64 (d).align] 31)
          have hb9 := hb7.alloc hb7.size (.cells #[.string (d).name, .int .i64 (d).kind, .int .i64 (d).frag, .int .i64 (d).at_, .int .i64 (d).size, .int .i64 (d).align] 31)
          obtain ⟨W9, hW9⟩ : ∃ W, W = w7.alloc (.cells #[.string (d).name, .int .i64 (d).kind, .int .i64 (d).frag, .int .i64 (d).at_, .int .i64 (d).size, .int .i64 (d).align] 31) := ⟨_, rfl⟩
          rw [← hW9] at hOut9 hStr9 kP9 hb9 ⊢
          clear hW9 hOut7 hStr7 kP7 hb7
          go_wp2_with (at_builtin
                       refine wpList_append_own _ rfl (.tmp 46) (.tmp 50) 34 rfl w.heap.size 44 i1 _ 4 40 Tryd.underlying34 hi1 hw0 hw1 hw2 rfl (by decide) _ _ _ rfl (hOut9.alloc _) ⟨W9.heap.size, 0, none⟩ 1 1 [.int .i64 (x), .string (s), .int .i64 0, .int .i64 0] rfl rfl ?c1 ?c2 ?c3 ?c4 ?c5 ?_
                       case c1 => exact fun j u hu => cells_new j u hu
                       case c2 => exact flt_one ⟨x, s⟩
                       case c3 => unfold maxLen; omega
                       case c4 => omega
                       case c5 => have := hb9.size; simp; omega
                       intro v8 w8 hown8 hg8 _
                       have hO8 : w8.ownsRow w.heap.size 44 4 v8 (out ++ [(⟨x, s⟩ : Flt)]).length (fltsV (out ++ [⟨x, s⟩])) := by rw [fltsV_append, List.length_append]; exact hown8
                       have hb8 : Below w.heap.size w w8 := (hb9.alloc hb9.size _).grown hg8 (by have := hb9.size; simp; omega) (fun g hg' => (hOut9.lt g hg').1)
                       have hStr8 := own_kept (hStr9.alloc _) hg8 (own_row_ne hStr9 hOut9 (by decide))
                       have kP8 := (kP9.alloc _).grown hg8 (own_blk_ne hOut9 kP9 (by decide)).symm
                       clear hg8 hown8 hOut9 hStr9 kP9 hb9)
          go_roundw
          case rel => exact ⟨k + 1, out ++ [⟨x, s⟩], by omega, by go_num, HO, by rw [List.length_append]; show out.length + 1 ≤ _; omega, hO8, by first | exact hStr8 | (rw [HA5.out] at hStr8; exact hStr8), kP8, hb8⟩
          case measure => simp [intOf]; omega
      · obtain rfl : k = U.length := by omega
        have HO : Hid (out = faultsP p.er) := by
          have := ho.out
          rw [List.take_length] at this
          exact this.trans HF.out.symm
        go_wp2
        go_ret2
        exact ⟨_, by rw [HC.out]; rfl, fun hn => absurd HC.out hn, fun _ => by rw [← HO.out]; exact hOut, hb⟩
  · have HC := Lib.hid hc
    have hv := hv0 hc
    subst hv
    obtain ⟨n, hn⟩ : ∃ n, ckPart p.er = n := ⟨_, rfl⟩
    have hn0 : (n != 0) = true := by rw [hn] at hc; simpa using hc
    have HN := Lib.hid hn
    rw [hn]
    clear hc hn hv0 hv1
    go_wp2
    go_ret2
    exact ⟨_, by rw [HN.out]; rfl, fun _ => rfl, fun hn => absurd hn HC.out, hb0.trans (hb1.mono hb0.size)⟩
end Go.Proofs.YtokiekachlmigaaDoor
