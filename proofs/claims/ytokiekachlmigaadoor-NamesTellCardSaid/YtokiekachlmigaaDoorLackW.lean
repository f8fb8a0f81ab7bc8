/- names.Lacking: what it computes. -/
import Derived.Test.YtokiekachlmigaaDoorSearchW
import Derived.Lib.SliceRun
import Derived.Laws.OwnMore
set_option linter.all false
namespace Go.Proofs.YtokiekachlmigaaDoor
open Go.RowKit

theorem wanted_len {p : PtM} (hc : ckPart p.er = 0) : (wantedP p.er).length ≤ 480 := by
  have hsm := small_of hc
  have nf := hsm.fr
  have h3 := setS_len (p.er.frs.flatMap wantedF)
  have h4 : (p.er.frs.flatMap wantedF).length ≤ p.frs.length * 8 := by
    have : ∀ l : List FgM, (∀ x ∈ l, x.f.rs.length ≤ 8) → ((l.map FgM.f).flatMap wantedF).length ≤ l.length * 8 := by
      intro l
      induction l with
      | nil => intro _; simp
      | cons x r ih =>
        intro hx
        have h5 := ih (fun y hy => hx y (by simp [hy]))
        have h6 : (wantedF x.f).length ≤ 8 := by
          unfold wantedF
          rw [List.length_map]
          exact Nat.le_trans (List.length_filter_le ..) (hx x (by simp))
        rw [List.map_cons, List.flatMap_cons, List.length_append, List.length_cons]
        omega
    have h7 := this p.frs hsm.re
    simpa [PtM.er] using h7
  unfold wantedP
  omega
theorem defined_len {p : PtM} (hc : ckPart p.er = 0) : (definedP p.er).length ≤ 60 := by
  have nd := (small_of hc).df
  have h3 := setS_len (p.er.dfs.map Df.name)
  have h4 : (p.er.dfs.map Df.name).length = p.dfs.length := by simp [PtM.er]
  unfold definedP
  omega
/-- What is in a row. -/
def inB (H : List ByteArray) (s : ByteArray) : Bool := decide (s ∈ H)
theorem own_set_str {w : World} {base g n cap : Nat} {R : List ByteArray} (h : w.ownsRow base 9 1 (.slice (some ⟨g, 0, none⟩) n cap) n (strsV R)) (j : Nat) (s : ByteArray) :
    (w.setCell ⟨g, j, none⟩ (.string s)).ownsRow base 9 1 (.slice (some ⟨g, 0, none⟩) n cap) n (strsV (R.set j s)) ∧ w.grownBy (w.setCell ⟨g, j, none⟩ (.string s)) (some g) := by
  have := h.stored j (.string s)
  rw [show (strsV R).set j (.string s) = strsV (R.set j s) from by simp [strsV, strV, List.map_set]] at this
  exact this
theorem own_shrink {w : World} {base g n cap k : Nat} {R : List ByteArray} (h : w.ownsRow base 9 1 (.slice (some ⟨g, 0, none⟩) n cap) n (strsV R)) (hk : k ≤ n) :
    w.ownsRow base 9 1 (.slice (some ⟨g, 0, none⟩) k cap) k (strsV (R.take k)) := by
  rcases h with ⟨hl, ⟨h0, _⟩ | ⟨g', cap', cur, e, hb, hg, hn, hm, hs, ht⟩⟩
  · cases h0
  · simp only [Value.slice.injEq, Option.some.injEq, Addr.mk.injEq, and_true, true_and] at e
    obtain ⟨rfl, rfl⟩ := e
    have e1 : strsV (R.take k) = (strsV R).take k := by simp [strsV, List.map_take]
    refine ⟨?_, .inr ⟨g, cap, cur, rfl, hb, hg, by omega, hm, hs, ?_⟩⟩
    · rw [e1, List.length_take, hl]; omega
    · rw [e1, ← ht, List.take_take, Nat.mul_one, Nat.mul_one, Nat.min_eq_left hk]
theorem own_clear {base g k cap : Nat} {xs : List Value} : ∀ (vs : List Value) (o : Nat) (w : World), w.ownsRow base 9 1 (.slice (some ⟨g, 0, none⟩) k cap) k xs → k ≤ o →
    (w.setCells g o vs).ownsRow base 9 1 (.slice (some ⟨g, 0, none⟩) k cap) k xs ∧ w.grownBy (w.setCells g o vs) (some g)
  | [], _, w, h, _ => ⟨h, grownBy_same w _⟩
  | v :: r, o, w, h, hk => by
    have h1 := h.stored o v
    have hl : xs.length = k := by have := h.1; omega
    rw [List.set_eq_of_length_le (by omega)] at h1
    have h2 := own_clear r (o + 1) (w.setCell ⟨g, o, none⟩ v) h1.1 (by omega)
    exact ⟨h2.1, h1.2.trans h2.2⟩

theorem lack1_any (AH : Option Addr) (cH : Nat) (H : List ByteArray) (gH : Nat) (s : ByteArray) (w : World) (kH : Blk w gH 26 #[.slice AH H.length cH]) (hH : Reads w w.heap.size 1 AH H.length (strsV H)) (hs : Rising (H.map keyOf)) (hhm : H.length < 4611686018427387904) :
    Calls Tryd.prog 58 #[.string s, .pointer (some ⟨gH, 0, none⟩)] w fun e w' => e = .returned (.bool (inB H s)) ∧ w' = w := by
  have HC := Lib.hid (search_any AH cH H s w hH hs hhm)
  have q0 := kH.cell 0
  clear hs
  go_enter Tryd.func58, Tryd.ntmps58
  go_wp2_with fail
  refine HC.out.mono ?_
  rintro e w1 ⟨⟨k, f, rfl, hf, _, _⟩, rfl⟩
  replace hf := Lib.hid hf
  go_wp2
  go_ret
  exact ⟨by rw [hf.out]; rfl, rfl⟩

set_option maxHeartbeats 4000000 in
theorem idxLack_any (A : Option Addr) (c : Nat) (l : List ByteArray) (AH : Option Addr) (cH : Nat) (H : List ByteArray) (gH : Nat) (w : World) (hR : Reads w w.heap.size 1 A l.length (strsV l)) (hlm : l.length ≤ 9223372036854775807)
    (kH : Blk w gH 26 #[.slice AH H.length cH]) (hH : Reads w w.heap.size 1 AH H.length (strsV H)) (hs : Rising (H.map keyOf)) (hhm : H.length < 4611686018427387904) :
    Calls Tryd.prog 78 #[.slice A l.length c, .func (.func 58) #[] #[.pointer (some ⟨gH, 0, none⟩)]] w
      fun e w' => (∃ r : Int, e = .returned (.int .i64 r) ∧ ((r = -1 ∧ ∀ s ∈ l, inB H s = false) ∨ (∃ (k : Nat) (x : ByteArray), r = k ∧ l[k]? = some x ∧ inB H x = true ∧ ∀ t y, l[t]? = some y → t < k → inB H y = false))) ∧ w' = w := by
  have HL := Lib.hid fun s => lack1_any AH cH H gH s w kH hH hs hhm
  clear hs
  go_enter Tryd.func78, Tryd.ntmps78
  go_wp2_with fail
  go_loopw [8] (fun i wr => ∃ k : Nat, k ≤ l.length ∧ i = .int .i64 k ∧ wr = w ∧ Hid (∀ t y, l[t]? = some y → t < k → inB H y = false)) (fun i _ => l.length - (intOf i).toNat)
  case atStart => exact ⟨0, Nat.zero_le _, rfl, rfl, Lib.hid fun t y _ ht => absurd ht (Nat.not_lt_zero _)⟩
  case round =>
    obtain ⟨k, hk, rfl, rfl, HI⟩ := hrel
    by_cases hlt : k < l.length
    · obtain ⟨x, hx⟩ : ∃ x, l[k]? = some x := ⟨_, List.getElem?_eq_getElem hlt⟩
      obtain ⟨b, off, rfl, cm⟩ := str_get hR hx
      have HX := Lib.hid hx
      clear hx
      have HCx := HL.out x
      obtain ⟨f, hf⟩ : ∃ f, inB H x = f := ⟨_, rfl⟩
      rw [hf] at HCx
      have HF := Lib.hid hf
      replace HCx := Lib.hid HCx
      clear hf
      rcases f with _ | _
      · go_wp2_with (go_at_call 58; refine HCx.out.mono ?_; rintro e w' ⟨rfl, rfl⟩)
        go_roundw
        case rel =>
          refine ⟨k + 1, by omega, by go_num, (by first | rfl | trivial), Lib.hid fun t y hy ht => ?_⟩
          rcases Nat.lt_or_ge t k with h1 | h1
          · exact HI.out t y hy h1
          · obtain rfl : t = k := by omega
            have := HX.out.symm.trans hy
            injection this with this
            rw [← this]; exact HF.out
        case measure => simp [intOf]; omega
      · go_wp2_with (go_at_call 58; refine HCx.out.mono ?_; rintro e w' ⟨rfl, rfl⟩)
        go_ret
        exact ⟨⟨k, rfl, .inr ⟨k, x, rfl, HX.out, HF.out, HI.out⟩⟩, rfl⟩
    · obtain rfl : k = l.length := by omega
      go_wp2
      go_ret
      refine ⟨⟨-1, rfl, .inl ⟨rfl, fun s hs => ?_⟩⟩, rfl⟩
      obtain ⟨t, ht, e⟩ := List.getElem_of_mem hs
      exact HI.out t s (by rw [List.getElem?_eq_getElem ht, e]) ht

theorem filter_full {q : ByteArray → Bool} {l : List ByteArray} (h : ∀ s ∈ l, q s = true) : l.filter q = l := List.filter_eq_self.2 h
/-- What is in the row while the second loop works: what stays of the first j, then what was there. -/
def delRow (q : ByteArray → Bool) (l : List ByteArray) (j : Nat) : List ByteArray := (l.take j).filter q ++ l.drop ((l.take j).filter q).length
theorem del_len (q : ByteArray → Bool) (l : List ByteArray) (j : Nat) : ((l.take j).filter q).length ≤ j := Nat.le_trans (List.length_filter_le ..) (by rw [List.length_take]; exact Nat.min_le_left _ _)
theorem del_le (q : ByteArray → Bool) (l : List ByteArray) (j : Nat) : ((l.take j).filter q).length ≤ l.length := Nat.le_trans (List.length_filter_le ..) (by rw [List.length_take]; exact Nat.min_le_right _ _)
theorem delRow_len (q : ByteArray → Bool) (l : List ByteArray) (j : Nat) : (delRow q l j).length = l.length := by
  have := del_le q l j
  simp only [delRow, List.length_append, List.length_drop]; omega
theorem delRow_get {q : ByteArray → Bool} {l : List ByteArray} {j : Nat} {x : ByteArray} (hx : l[j]? = some x) : (delRow q l j)[j]? = some x := by
  have := del_len q l j
  unfold delRow
  rw [List.getElem?_append_right this, List.getElem?_drop, show ((l.take j).filter q).length + (j - ((l.take j).filter q).length) = j by omega, hx]
theorem delRow_out {q : ByteArray → Bool} {l : List ByteArray} {j : Nat} {x : ByteArray} (hx : l[j]? = some x) (hq : q x = false) : delRow q l (j + 1) = delRow q l j ∧ (l.take (j + 1)).filter q = (l.take j).filter q := by
  have e : (l.take (j + 1)).filter q = (l.take j).filter q := by rw [List.take_add_one, hx, List.filter_append]; simp [hq]
  unfold delRow
  rw [e]; exact ⟨rfl, rfl⟩
theorem delRow_in {q : ByteArray → Bool} {l : List ByteArray} {j : Nat} {x : ByteArray} (hx : l[j]? = some x) (hq : q x = true) :
    delRow q l (j + 1) = (delRow q l j).set ((l.take j).filter q).length x ∧ (l.take (j + 1)).filter q = (l.take j).filter q ++ [x] := by
  have e : (l.take (j + 1)).filter q = (l.take j).filter q ++ [x] := by rw [List.take_add_one, hx, List.filter_append]; simp [hq]
  refine ⟨?_, e⟩
  have h1 := del_len q l j
  have hj : j < l.length := (List.getElem?_eq_some_iff.1 hx).1
  unfold delRow
  rw [e, List.set_append_right _ _ (Nat.le_refl _), Nat.sub_self, List.length_append, List.length_singleton, List.append_assoc]
  congr 1
  rw [List.drop_eq_getElem_cons (show ((l.take j).filter q).length < l.length by omega), List.set_cons_zero]; rfl

def notIn (H : List ByteArray) (s : ByteArray) : Bool := !inB H s
set_option maxHeartbeats 8000000 in
set_option maxRecDepth 100000 in
theorem delLack_any (base : Nat) (A : Option Addr) (c : Nat) (l : List ByteArray) (AH : Option Addr) (cH : Nat) (H : List ByteArray) (gH : Nat) (w : World) (hO : w.ownsRow base 9 1 (.slice A l.length c) l.length (strsV l)) (hlm : l.length ≤ 100000)
    (kH : Blk w gH 26 #[.slice AH H.length cH]) (hH : w.ownsRow base 9 1 (.slice AH H.length cH) H.length (strsV H)) (hne : ∀ g, (Value.slice AH H.length cH).ownBlock = some g → (Value.slice A l.length c).ownBlock ≠ some g) (hs : Rising (H.map keyOf)) (hhm : H.length < 4611686018427387904) :
    Calls Tryd.prog 57 #[.slice A l.length c, .func (.func 58) #[] #[.pointer (some ⟨gH, 0, none⟩)]] w
      fun e w' => ∃ v', e = .returned v' ∧ w'.ownsRow base 9 1 v' (l.filter (notIn H)).length (strsV (l.filter (notIn H))) ∧ w.grownBy w' (Value.slice A l.length c).ownBlock := by
  have HI := Lib.hid (idxLack_any A c l AH cH H gH w (Reads.of_own hO) (by omega) kH (Reads.of_own hH) hs hhm)
  have HSR := Lib.hid hs
  clear hs
  go_enter Tryd.func57, Tryd.ntmps57
  go_wp2_with fail
  refine HI.out.mono ?_
  rintro e w1 ⟨⟨r, rfl, hr⟩, rfl⟩
  rcases hr with ⟨rfl, hno⟩ | ⟨k, x, rfl, hx, hq, hb⟩
  · have HF : Hid (l.filter (notIn H) = l) := filter_full fun s hs => by unfold notIn; rw [hno s hs]; rfl
    clear hno
    go_wp2
    go_ret
    exact ⟨_, rfl, by rw [HF.out]; exact hO, grownBy_same _ _⟩
  · have hk : k < l.length := (List.getElem?_eq_some_iff.1 hx).1
    have HT : Hid ((l.take (k + 1)).filter (notIn H) = l.take k) := by
      show _ = _
      rw [List.take_add_one, hx, List.filter_append, List.filter_eq_self.2 (fun s hs => ?_)]
      · simp [notIn, hq]
      · obtain ⟨t, ht, e⟩ := List.getElem_of_mem hs
        rw [List.getElem_take] at e
        rw [List.length_take] at ht
        unfold notIn
        rw [hb t s (by rw [← e]; exact List.getElem?_eq_getElem (by omega)) (by omega)]; rfl
    obtain ⟨g, cap, hv, hg0, hg1⟩ := hO.form (by omega)
    obtain ⟨rfl, rfl⟩ : A = some ⟨g, 0, none⟩ ∧ c = cap := by
      simp only [Value.slice.injEq, true_and] at hv
      exact hv
    have k0 : ((k : Int) == -1) = false := by first | (simp; done) | (simp; omega)
    have hgH : gH ≠ g := fun e => own_blk_ne hO kH (by decide) (by rw [e]; rfl)
    have HR0 : Hid (delRow (notIn H) l (k + 1) = l) := by
      show _ = _
      unfold delRow
      rw [HT.out, List.length_take, Nat.min_eq_left (Nat.le_of_lt hk), List.take_append_drop]
    have hk2 : ((l.take (k + 1)).filter (notIn H)).length = k := by rw [HT.out, List.length_take]; omega
    clear hv hx hq hb
    go_wp2_with fail
    go_loopw [5, 6] (fun i j wr => ∃ (m n : Nat), n ≤ l.length ∧ m < n ∧ i = .int .i64 m ∧ j = .int .i64 n ∧ Hid (m = ((l.take n).filter (notIn H)).length) ∧ wr.ownsRow base 9 1 (.slice (some ⟨g, 0, none⟩) l.length c) l.length (strsV (delRow (notIn H) l n)) ∧
      wr.ownsRow base 9 1 (.slice AH H.length cH) H.length (strsV H) ∧ Blk wr gH 26 #[.slice AH H.length cH] ∧ w1.grownBy wr (some g)) (fun _ j _ => l.length - (intOf j).toNat)
    case atStart => exact ⟨k, k + 1, by omega, by omega, rfl, by go_num, Lib.hid hk2.symm, by rw [HR0.out]; exact hO, hH, kH, grownBy_same _ _⟩
    case round =>
      clear hk2
      obtain ⟨m, n, hn, hmn, rfl, rfl, hm, hOw, hHw, kHw, hgr⟩ := hrel
      by_cases hlt : n < l.length
      · obtain ⟨x, hx⟩ : ∃ x, l[n]? = some x := ⟨_, List.getElem?_eq_getElem hlt⟩
        have hx2 := delRow_get (q := notIn H) hx
        have hRd : Reads wr wr.heap.size 1 (some ⟨g, 0, none⟩) (delRow (notIn H) l n).length (strsV (delRow (notIn H) l n)) := by
          have := Reads.of_own hOw
          rw [delRow_len]; exact this
        obtain ⟨b', o', he', cm⟩ := str_get hRd hx2
        obtain ⟨rfl, rfl⟩ : g = b' ∧ 0 = o' := by
          simp only [Option.some.injEq, Addr.mk.injEq, and_true] at he'
          exact he'
        rw [Nat.zero_add] at cm
        have hfz := hOw.frozenAt m
        have cmm : ∃ u, wr.cell? ⟨g, m, none⟩ = some u := by
          obtain ⟨u, hu⟩ : ∃ u, (delRow (notIn H) l n)[m]? = some u := ⟨_, List.getElem?_eq_getElem (by rw [delRow_len]; omega)⟩
          obtain ⟨b2, o2, he2, cm2⟩ := str_get hRd hu
          obtain ⟨rfl, rfl⟩ : g = b2 ∧ 0 = o2 := by
            simp only [Option.some.injEq, Addr.mk.injEq, and_true] at he2
            exact he2
          rw [Nat.zero_add] at cm2
          exact ⟨_, cm2⟩
        obtain ⟨u, cmm⟩ := cmm
        have HX := Lib.hid hx
        have HCx := lack1_any AH cH H gH x wr kHw (Reads.of_own hHw) HSR.out hhm
        obtain ⟨f, hf⟩ : ∃ f, inB H x = f := ⟨_, rfl⟩
        rw [hf] at HCx
        have HF := Lib.hid hf
        replace HCx := Lib.hid HCx
        clear hf hx hx2 hRd he'
        rcases f with _ | _
        · have HD := Lib.hid (delRow_in HX.out (show notIn H x = true by unfold notIn; rw [HF.out]; rfl))
          go_wp2_with (go_at_call 58; refine HCx.out.mono ?_; rintro e w' ⟨rfl, rfl⟩)
          go_roundw
          case rel =>
            have h1 := own_set_str hOw m x
            have hHn : (Value.slice AH H.length cH).ownBlock ≠ some g := fun e => hne g e rfl
            refine ⟨m + 1, n + 1, by omega, by omega, by go_num, by go_num, Lib.hid (by rw [HD.out.2, List.length_append, ← hm.out]; rfl), ?_, own_setCell hHw hHn _, kHw.far (p := ⟨g, m, none⟩) hgH _, hgr.trans h1.2⟩
            rw [HD.out.1, ← hm.out]
            exact h1.1
          case measure => simp [intOf]; omega
        · have HD := Lib.hid (delRow_out HX.out (show notIn H x = false by unfold notIn; rw [HF.out]; rfl))
          go_wp2_with (go_at_call 58; refine HCx.out.mono ?_; rintro e w' ⟨rfl, rfl⟩)
          go_roundw
          case rel => exact ⟨m, n + 1, by omega, by omega, rfl, by go_num, Lib.hid (by rw [HD.out.2]; exact hm.out), by rw [HD.out.1]; exact hOw, hHw, kHw, hgr⟩
          case measure => simp [intOf]; omega
      · obtain rfl : n = l.length := by omega
        have HFL : Hid (m = (l.filter (notIn H)).length) := by have := hm.out; rw [List.take_length] at this; exact this
        have HDR : Hid (strsV ((delRow (notIn H) l l.length).take m) = strsV (l.filter (notIn H))) := by
          show _ = _
          unfold delRow
          rw [List.take_length, HFL.out, List.take_left]
        have hsh := own_shrink hOw (k := m) (by omega)
        rw [HDR.out] at hsh
        have hRd : Reads wr wr.heap.size 1 (some ⟨g, 0, none⟩) (delRow (notIn H) l l.length).length (strsV (delRow (notIn H) l l.length)) := by
          have := Reads.of_own hOw
          rw [delRow_len]; exact this
        have hcl : ∀ ty, (Builtin.clear_ #[26] ty #[.slice (some ⟨g, m, none⟩) (l.length - m) (c - m)]).run Tryd.prog wr = .ok (.tuple #[]) (wr.setCells g m (List.replicate (l.length - m) (.string ⟨#[]⟩))) := fun ty =>
          Lib.run_clear_slice wr _ _ ty _ Tryd.underlying26 Tryd.zeroValue9 rfl rfl g m _ _ (by omega)
            (fun j hj => by
              obtain ⟨u, hu⟩ : ∃ u, (delRow (notIn H) l l.length)[m + j]? = some u := ⟨_, List.getElem?_eq_getElem (by rw [delRow_len]; omega)⟩
              obtain ⟨b2, o2, he2, cm2⟩ := str_get hRd hu
              obtain ⟨rfl, rfl⟩ : g = b2 ∧ 0 = o2 := by
                simp only [Option.some.injEq, Addr.mk.injEq, and_true] at he2
                exact he2
              rw [Nat.zero_add] at cm2
              rw [cm2]; rfl)
            (fun j hj => hOw.frozenAt (m + j))
        have hce := own_clear (List.replicate (l.length - m) (.string ⟨#[]⟩)) m wr hsh (Nat.le_refl _)
        have hlc : l.length ≤ c := by
          obtain ⟨A', c', e', h1, h2⟩ := own_form hOw
          simp only [Value.slice.injEq, true_and] at e'
          omega
        have hcm : ¬ c = m := by omega
        clear hRd hsh hOw hHw kHw
        go_wp2
        go_ret
        exact ⟨.slice (some ⟨g, 0, none⟩) m c, rfl, by rw [← HFL.out]; exact hce.1, hgr.trans hce.2⟩

def lackingP (p : Prt) : List ByteArray := (wantedP p).filter (notIn (definedP p))
set_option maxHeartbeats 4000000 in
set_option maxRecDepth 100000 in
theorem lacking_any (p : PtM) (w : World) (h : p.At w w.heap.size) :
    Calls Tryd.prog 11 #[.agg #[.slice p.fa p.frs.length p.fc, .slice p.da p.dfs.length p.dc]] w (StrsRes w p.er (lackingP p.er)) := by
  have hb0 : Below w.heap.size w (w.alloc (.cells #[.slice (p).fa (p).frs.length (p).fc, .slice (p).da (p).dfs.length (p).dc] 25)) := by (repeat' (first | exact Below.refl _ _ | assumption | refine Below.setCell ?_ (by first | omega | exact Below.size (by assumption) | (simp; done) | (simp; omega)) _ | refine Below.alloc ?_ (by first | omega | exact Below.size (by assumption) | (simp; done) | (simp; omega)) _ | refine Below.drew ?_ | refine below_drewN ?_ _))
  have hP := Blk.new w 25 #[.slice p.fa p.frs.length p.fc, .slice p.da p.dfs.length p.dc]
  have h1 := h.all hb0
  unfold StrsRes
  go_enter Tryd.func11, Tryd.ntmps11
  go_wp2_with fail
  refine (wanted_any p _ h1).mono ?_
  rintro e w1 ⟨v, rfl, hv0, hv1, hb1⟩
  by_cases hc : ckPart p.er = 0
  · have HC := Lib.hid hc
    have hW := hv1 hc
    have wl := wanted_len hc
    have dl := defined_len hc
    rw [HC.out]
    have kP := hP.all hb1
    have hb := hb0.trans (hb1.mono hb0.size)
    have h2 := h1.all hb1
    have HF : Hid (lackingP p.er = (wantedP p.er).filter (notIn (definedP p.er))) := rfl
    have HR := Lib.hid (setS_rising (p.er.dfs.map Df.name))
    replace HR : Hid (Rising ((definedP p.er).map keyOf)) := HR
    obtain ⟨L1, hL1⟩ : ∃ L, wantedP p.er = L := ⟨_, rfl⟩
    obtain ⟨L2, hL2⟩ : ∃ L, definedP p.er = L := ⟨_, rfl⟩
    rw [hL1] at hW wl HF
    rw [hL2] at dl HF HR
    obtain ⟨A1, c1, rfl, hc1, hc2⟩ := own_form hW
    have hlt1 := fun g hg => (hW.lt g hg).2
    replace hW := hW.mono hb0.size
    have p0 := kP.cell 0
    have p1 := kP.cell 1
    clear hv0 hv1 hP hb0 hb1 h1 hc kP
    go_wp2_with fail
    refine (defined_any p w1 h2).mono ?_
    rintro e w2 ⟨v2, rfl, hv0, hv1, hb2⟩
    have hD := hv1 HC.out
    rw [hL2] at hD
    rw [HC.out]
    have hlt2 := fun g hg => (hD.lt g hg).1
    replace hD := hD.mono hb.size
    have hW2 := own_all hW hb2
    have hb3 := hb.trans (hb2.mono hb.size)
    obtain ⟨A2, c2, rfl, hc3, hc4⟩ := own_form hD
    have hne : ∀ g, (Value.slice A2 L2.length c2).ownBlock = some g → (Value.slice A1 L1.length c1).ownBlock ≠ some g := fun g h1 h2 => by
      have e1 := hlt2 g h1
      have e2 := hlt1 g h2
      omega
    clear hv0 hv1 hW hb hb2 h2 p0 p1 hL1 hL2 hlt1 hlt2
    go_upto_region 5 with (fail)
    have hW3 := hW2.alloc (.cells #[.slice A2 L2.length c2] 26)
    have hD3 := hD.alloc (.cells #[.slice A2 L2.length c2] 26)
    have kH := Blk.new w2 26 #[.slice A2 L2.length c2]
    have hb4 := hb3.alloc hb3.size (.cells #[.slice A2 L2.length c2] 26)
    obtain ⟨gH, hgH⟩ : ∃ g, g = w2.heap.size := ⟨_, rfl⟩
    obtain ⟨W, hW⟩ : ∃ W', W' = w2.alloc (.cells #[.slice A2 L2.length c2] 26) := ⟨_, rfl⟩
    rw [← hgH] at kH ⊢
    rw [← hW] at hW3 hD3 kH hb4 ⊢
    clear hW hgH hW2 hD hb3
    have hmf : ∀ (fn : Fn) (first cap : Array Value) (w : World), (Instr.makeFunc fn first cap).run Tryd.prog w = .ok (.func fn first cap) w := fun _ _ _ _ => rfl
    go_wp2_with fail
    refine (delLack_any w.heap.size A1 c1 L1 A2 c2 L2 gH W hW3 (by omega) kH hD3 hne HR.out (by omega)).mono ?_
    rintro e w5 ⟨v5, rfl, hown5, hg5⟩
    have hb5 := below_row hb4 hb4.size hW3 hg5
    go_wp2
    go_ret2
    exact ⟨v5, by rw [HC.out]; rfl, fun hn => absurd HC.out hn, fun _ => by rw [HF.out]; exact hown5, hb5⟩
  · have HC := Lib.hid hc
    have hv := hv0 hc
    subst hv
    obtain ⟨n, hn⟩ : ∃ n, ckPart p.er = n := ⟨_, rfl⟩
    have hn0 : (n != 0) = true := by rw [hn] at hc; simpa using hc
    have HN := Lib.hid hn
    rw [hn]
    clear hc hn hv0 hv1
    go_wp2
    go_ret2
    exact ⟨_, by rw [HN.out]; rfl, fun _ => rfl, fun hn => absurd hn HC.out, hb0.trans (hb1.mono hb0.size)⟩
end Go.Proofs.YtokiekachlmigaaDoor
