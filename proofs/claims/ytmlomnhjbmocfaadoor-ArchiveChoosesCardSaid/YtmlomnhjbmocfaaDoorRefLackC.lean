/- ropewalkref.Chosen's closure: what is lacking, as a set of the call's own. -/
import Derived.Test.YtmlomnhjbmocfaaDoorSetT
import Derived.Test.YtmlomnhjbmocfaaDoorRefSet
import Derived.Test.YtmlomnhjbmocfaaDoorArcM
set_option linter.all false
namespace Go.Proofs.YtmlomnhjbmocfaaDoor
open Go.RowKit Go.Maps

theorem atKey_delT {D : DataW Unit} (s x : ByteArray) (z : DataW Unit) {S : List ByteArray} (ha : ∀ x z, D.atKey (nmLit x) z = if x ∈ S then .lit (.bool true) else z) :
    (D.del (nmLit s)).atKey (nmLit x) z = if x ∈ S.filter (fun y => y != s) then .lit (.bool true) else z := by
  by_cases hx : x = s
  · subst hx
    rw [atKey_del_same, if_neg (by simp)]
  · rw [atKey_del_other (fun e => hx (nmLit_inj e)), ha]
    simp [hx]
/-- 'delete(m, s)' at the operation. -/
theorem wpList_setDelT (w : World) {ops : Array Oper} {rest : List Oper} {o : Oper} {a : Act} {Q : Exit → Act → World → Prop} (hg : o.guard = none) (m x : Operand) (hop : o.op = Op.call { callee := Callee.builtin Builtin.delete, args := #[m, x], argTypes := #[81, 9] })
    (g n : Nat) (S : List ByteArray) (h : SetT w g n S) (hm : a.eval m = .map (some g)) (s : ByteArray) (hx : a.eval x = .string s) (hs : s.size ≤ 1000000)
    (hK : ∀ w', SetT w' g n (S.filter fun y => y != s) → w.grownBy w' (some g) → wpList Tryd.prog ops Q rest (a.put o.dst (.tuple #[])) w') : wpList Tryd.prog ops Q (o :: rest) a w := by
  obtain ⟨D, hD, ha⟩ := h
  refine wpList_delete_own w hg m x 81 9 hop 4 nm_keyed Tryd.underlying81 _ g n D hm hD (.string s) (nmLit s) hx (nm_key hs) ?_
  intro w' h1 h2
  exact hK w' ⟨_, h1, fun y z => atKey_delT s y z ha⟩ h2.grown
theorem take_mem {l : List ByteArray} {k : Nat} {s : ByteArray} (h : l[k]? = some s) (x : ByteArray) : x ∈ l.take (k + 1) ↔ x = s ∨ x ∈ l.take k := by
  rw [List.take_add_one, h]
  simp [or_comm]
theorem wantS_take {first : List ByteArray} {qs : List PtM} {k : Nat} {q : PtM} (h : qs[k]? = some q) (x : ByteArray) : x ∈ wantS first ((qs.take (k + 1)).map PtM.er) ↔ x ∈ wantS first ((qs.take k).map PtM.er) ∨ x ∈ wantedP q.er := by
  rw [List.take_add_one, h]
  unfold wantS
  simp [or_assoc]
theorem haveS_take {qs : List PtM} {k : Nat} {q : PtM} (h : qs[k]? = some q) (x : ByteArray) : x ∈ haveS ((qs.take (k + 1)).map PtM.er) ↔ x ∈ haveS ((qs.take k).map PtM.er) ∨ x ∈ definedP q.er := by
  rw [List.take_add_one, h]
  unfold haveS
  simp

set_option maxHeartbeats 8000000 in
set_option maxRecDepth 100000 in
theorem lackC_any (g3 g4 : Nat) (A : Option Addr) (c : Nat) (first : List ByteArray) (Z : Option Addr) (cz : Nat) (qs : List PtM) (w : World)
    (k3 : Blk w g3 27 #[.slice A first.length c]) (k4 : Blk w g4 41 #[.slice Z qs.length cz])
    (hf : Reads w w.heap.size 1 A first.length (strsV first)) (hz : Reads w w.heap.size 2 Z qs.length (ptsV qs)) (hq : ∀ q ∈ qs, q.At w w.heap.size ∧ ckPart q.er = 0)
    (hfl : first.length ≤ 12) (hfs : ∀ s ∈ first, s.size ≤ 8) (hql : qs.length ≤ 104) :
    Calls Tryd.prog 53 #[.pointer (some ⟨g3, 0, none⟩), .pointer (some ⟨g4, 0, none⟩)] w
      fun e w' => ∃ (g n : Nat) (S : List ByteArray), e = .returned (.map (some g)) ∧ SetT w' g n S ∧ (∀ x, x ∈ S ↔ x ∈ wantS first (qs.map PtM.er) ∧ x ∉ haveS (qs.map PtM.er)) ∧ Below w.heap.size w w' := by
  have hmm := @run_makeMap Tryd.prog
  have hS0 := SetT.new w
  have hb0 : Below w.heap.size w (w.alloc (.map #[] 0)) := by (repeat' (first | exact Below.refl _ _ | assumption | refine Below.setCell ?_ (by first | omega | exact Below.size (by assumption) | (simp; done) | (simp; omega)) _ | refine Below.alloc ?_ (by first | omega | exact Below.size (by assumption) | (simp; done) | (simp; omega)) _ | refine Below.drew ?_ | refine below_drewN ?_ _))
  have HFS := Lib.hid hfs
  have HQ := Lib.hid hq
  clear hfs hq
  go_enter Tryd.func53, Tryd.ntmps53
  go_upto_region 2 with (fail)
  obtain ⟨g, hg⟩ : ∃ g, g = w.heap.size := ⟨_, rfl⟩
  have hgw : w.heap.size ≤ g := by omega
  obtain ⟨W, hW⟩ : ∃ y, y = w.alloc (.map #[] 0) := ⟨_, rfl⟩
  rw [← hg, ← hW] at hS0
  rw [← hW] at hb0 ⊢
  rw [← hg]
  have k3W := (k3.all (by rw [hW]; (repeat' (first | exact Below.refl _ _ | assumption | refine Below.setCell ?_ (by first | omega | exact Below.size (by assumption) | (simp; done) | (simp; omega)) _ | refine Below.alloc ?_ (by first | omega | exact Below.size (by assumption) | (simp; done) | (simp; omega)) _ | refine Below.drew ?_ | refine below_drewN ?_ _))) : Blk W g3 _ _)
  clear hW hg hmm
  have q0 := k3W.cell 0
  go_wp2_with fail
  clear q0 k3W
  go_loopw [17] (fun i wr => ∃ (k : Nat) (S : List ByteArray), k ≤ first.length ∧ i = .int .i64 k ∧ SetT wr g k S ∧ Hid (∀ x, x ∈ S ↔ x ∈ first.take k) ∧ Below w.heap.size w wr) (fun i _ => first.length - (intOf i).toNat)
  case atStart => exact ⟨0, [], Nat.zero_le _, rfl, hS0, Lib.hid (by simp), hb0⟩
  case round =>
    clear hS0 hb0
    obtain ⟨k, S, hk, rfl, hset, hS, hb⟩ := hrel
    by_cases hlt : k < first.length
    · obtain ⟨s, hs⟩ : ∃ s, first[k]? = some s := ⟨_, List.getElem?_eq_getElem hlt⟩
      obtain ⟨b, off, u, hA, bl, hu, hcu⟩ := (hf.below hb).at_ hlt
      rw [strsV_get hs] at hu
      injection hu with hu
      subst hu
      have hs8 := HFS.out s (List.mem_of_getElem? hs)
      have HX : Hid (∀ x, x ∈ s :: S ↔ x ∈ first.take (k + 1)) := fun x => by rw [take_mem hs, List.mem_cons, hS.out x]
      rw [hA]
      clear hs
      go_wp2_with (at_mapUpdate; refine wpList_setPutT _ rfl _ _ _ rfl g k _ hset rfl (by omega) s rfl rfl (by omega) ?_; intro w3 hs3 hg3)
      have hb3 := hb.grown hg3 hb.size (fun j hj => by cases hj; exact hgw)
      go_roundw
      case rel => exact ⟨k + 1, s :: S, by omega, by go_num, hs3, HX, hb3⟩
      case measure => simp [intOf]; omega
    · obtain rfl : k = first.length := by omega
      have HS2 : Hid (∀ x, x ∈ S ↔ x ∈ wantS first ((qs.take 0).map PtM.er)) := fun x => by rw [hS.out x, List.take_length]; simp [wantS]
      have q0 := (k4.all hb).cell 0
      go_wp2_with fail
      clear q0 hS
      go_loopw [26] (fun i wr => ∃ (k n : Nat) (S : List ByteArray), k ≤ qs.length ∧ i = .int .i64 k ∧ n ≤ 12 + 480 * k ∧ SetT wr g n S ∧ Hid (∀ x, x ∈ S ↔ x ∈ wantS first ((qs.take k).map PtM.er)) ∧ Below w.heap.size w wr) (fun i _ => qs.length - (intOf i).toNat)
      case atStart => exact ⟨0, first.length, S, Nat.zero_le _, rfl, by omega, hset, HS2, hb⟩
      case round =>
        clear hset HS2 hb
        obtain ⟨k, n, S, hk, rfl, hn, hset, hS, hb⟩ := hrel
        by_cases hlt : k < qs.length
        · obtain ⟨q, hqk⟩ : ∃ q, qs[k]? = some q := ⟨_, List.getElem?_eq_getElem hlt⟩
          obtain ⟨hqa, hqc⟩ := HQ.out q (List.mem_of_getElem? hqk)
          obtain ⟨b1, o1, hZ, bl1, d0, d1⟩ := pt_get (hz.below hb) hqk
          have HQK := Lib.hid hqk
          have hwf := wanted_few hqc
          have HWS : Hid (∀ s ∈ wantedP q.er, s.size ≤ 8) := fun s hs => wanted_short hqc hs
          have hsw : Below wr.heap.size wr (wr.alloc (.cells #[.slice (q).fa (q).frs.length (q).fc, .slice (q).da (q).dfs.length (q).dc] 25)) := by (repeat' (first | exact Below.refl _ _ | assumption | refine Below.setCell ?_ (by first | omega | exact Below.size (by assumption) | (simp; done) | (simp; omega)) _ | refine Below.alloc ?_ (by first | omega | exact Below.size (by assumption) | (simp; done) | (simp; omega)) _ | refine Below.drew ?_ | refine below_drewN ?_ _))
          have HQC := Lib.hid hqc
          rw [hZ]
          clear hqk hqc
          go_upto_region 10 with (fail)
          have kQ := Blk.new wr 25 #[.slice q.fa q.frs.length q.fc, .slice q.da q.dfs.length q.dc]
          replace hset := hset.all hsw
          replace hb := hb.trans (hsw.mono hb.size)
          have hqa2 := hqa.keep hb hb.size
          obtain ⟨gQ, hgQ⟩ : ∃ y, y = wr.heap.size := ⟨_, rfl⟩
          obtain ⟨w2, hw2⟩ : ∃ y, y = wr.alloc (.cells #[.slice (q).fa (q).frs.length (q).fc, .slice (q).da (q).dfs.length (q).dc] 25) := ⟨_, rfl⟩
          rw [← hgQ] at kQ ⊢
          rw [← hw2] at kQ hset hb hqa2 ⊢
          clear hw2 hgQ hsw d0 d1 hqa bl1
          have p0 := kQ.cell 0
          have p1 := kQ.cell 1
          go_wp2_with fail
          refine (wantedBy_any q w2 hqa2 HQC.out).mono ?_
          rintro e w3 ⟨v, rfl, hown, hb3⟩
          obtain ⟨Av, cv, rfl, hcv, _⟩ := own_form hown
          replace hset := hset.all hb3
          replace hb := hb.trans (hb3.mono hb.size)
          obtain ⟨L, hL⟩ : ∃ L, L = wantedP q.er := ⟨_, rfl⟩
          rw [← hL] at hown hwf HWS ⊢
          have HL := Lib.hid hL
          clear hL hb3 p0 p1 kQ hqa2
          go_wp2_with fail
          go_loopw [33] (fun i wx => ∃ (j : Nat) (T : List ByteArray), j ≤ L.length ∧ i = .int .i64 j ∧ SetT wx g (n + j) T ∧ Hid (∀ x, x ∈ T ↔ x ∈ S ∨ x ∈ L.take j) ∧ w3.grownBy wx (some g)) (fun i _ => L.length - (intOf i).toNat)
          case atStart => exact ⟨0, S, Nat.zero_le _, rfl, hset, Lib.hid (by simp), World.grownBy.refl _ _⟩
          case round =>
            obtain ⟨j, T, hj, rfl, hT, hTS, hg3⟩ := hrel
            by_cases hjl : j < L.length
            · obtain ⟨s, hs⟩ : ∃ s, L[j]? = some s := ⟨_, List.getElem?_eq_getElem hjl⟩
              obtain ⟨b, off, u, rfl, bl, hu, hcu⟩ := (Reads.of_own (hset.is.own hown hg3)).at_ hjl
              rw [strsV_get hs] at hu
              injection hu with hu
              subst hu
              have hs8 := HWS.out s (List.mem_of_getElem? hs)
              have HX : Hid (∀ x, x ∈ s :: T ↔ x ∈ S ∨ x ∈ L.take (j + 1)) := fun x => by rw [take_mem hs, List.mem_cons, hTS.out x]; exact ⟨fun h => h.elim (fun h => .inr (.inl h)) (fun h => h.elim .inl (fun h => .inr (.inr h))), fun h => h.elim (fun h => .inr (.inl h)) (fun h => h.elim .inl (fun h => .inr (.inr h)))⟩
              clear hs
              go_wp2_with (at_mapUpdate; refine wpList_setPutT _ rfl _ _ _ rfl g (n + j) _ hT rfl (by omega) s rfl rfl (by omega) ?_; intro w4 hT4 hg4)
              go_roundw
              case rel => exact ⟨j + 1, _, by omega, by go_num, hT4, HX, hg3.trans hg4⟩
              case measure => simp [intOf]; omega
            · obtain rfl : j = L.length := by omega
              have hbx := hb.grown hg3 hb.size (fun j hj => by cases hj; exact hgw)
              have HN : Hid (∀ x, x ∈ T ↔ x ∈ wantS first ((qs.take (k + 1)).map PtM.er)) := fun x => by rw [hTS.out x, wantS_take HQK.out, hS.out x, List.take_length, HL.out]
              go_wp2
              go_roundw
              case rel => exact ⟨k + 1, n + L.length, T, by omega, by go_num, by omega, hT, HN, hbx⟩
              case measure => simp [intOf]; omega
        · obtain rfl : k = qs.length := by omega
          have HS3 : Hid (∀ x, x ∈ S ↔ x ∈ wantS first (qs.map PtM.er) ∧ x ∉ haveS ((qs.take 0).map PtM.er)) := fun x => by rw [hS.out x, List.take_length]; simp [haveS]
          have hn9 : n ≤ 99999 := by omega
          have q0 := (k4.all hb).cell 0
          go_wp2_with fail
          clear q0 hS hn
          go_loopw [43] (fun i wr => ∃ (k n : Nat) (S : List ByteArray), k ≤ qs.length ∧ i = .int .i64 k ∧ SetT wr g n S ∧ Hid (∀ x, x ∈ S ↔ x ∈ wantS first (qs.map PtM.er) ∧ x ∉ haveS ((qs.take k).map PtM.er)) ∧ Below w.heap.size w wr) (fun i _ => qs.length - (intOf i).toNat)
          case atStart => exact ⟨0, n, S, Nat.zero_le _, rfl, hset, HS3, hb⟩
          case round =>
            clear hset HS3 hb hn9
            obtain ⟨k, n, S, hk, rfl, hset, hS, hb⟩ := hrel
            by_cases hlt : k < qs.length
            · obtain ⟨q, hqk⟩ : ∃ q, qs[k]? = some q := ⟨_, List.getElem?_eq_getElem hlt⟩
              obtain ⟨hqa, hqc⟩ := HQ.out q (List.mem_of_getElem? hqk)
              obtain ⟨b1, o1, hZ, bl1, d0, d1⟩ := pt_get (hz.below hb) hqk
              have HQK := Lib.hid hqk
              have hwf := defined_few hqc
              have HWS : Hid (∀ s ∈ definedP q.er, s.size ≤ 8) := fun s hs => defined_short hqc hs
              have hsw : Below wr.heap.size wr (wr.alloc (.cells #[.slice (q).fa (q).frs.length (q).fc, .slice (q).da (q).dfs.length (q).dc] 25)) := by (repeat' (first | exact Below.refl _ _ | assumption | refine Below.setCell ?_ (by first | omega | exact Below.size (by assumption) | (simp; done) | (simp; omega)) _ | refine Below.alloc ?_ (by first | omega | exact Below.size (by assumption) | (simp; done) | (simp; omega)) _ | refine Below.drew ?_ | refine below_drewN ?_ _))
              have HQC := Lib.hid hqc
              rw [hZ]
              clear hqk hqc
              go_upto_region 19 with (fail)
              have kQ := Blk.new wr 25 #[.slice q.fa q.frs.length q.fc, .slice q.da q.dfs.length q.dc]
              replace hset := hset.all hsw
              replace hb := hb.trans (hsw.mono hb.size)
              have hqa2 := hqa.keep hb hb.size
              obtain ⟨gQ, hgQ⟩ : ∃ y, y = wr.heap.size := ⟨_, rfl⟩
              obtain ⟨w2, hw2⟩ : ∃ y, y = wr.alloc (.cells #[.slice (q).fa (q).frs.length (q).fc, .slice (q).da (q).dfs.length (q).dc] 25) := ⟨_, rfl⟩
              rw [← hgQ] at kQ ⊢
              rw [← hw2] at kQ hset hb hqa2 ⊢
              clear hw2 hgQ hsw d0 d1 hqa bl1
              have p0 := kQ.cell 0
              have p1 := kQ.cell 1
              go_wp2_with fail
              refine (definedBy_any q w2 hqa2 HQC.out).mono ?_
              rintro e w3 ⟨v, rfl, hown, hb3⟩
              obtain ⟨Av, cv, rfl, hcv, _⟩ := own_form hown
              replace hset := hset.all hb3
              replace hb := hb.trans (hb3.mono hb.size)
              obtain ⟨L, hL⟩ : ∃ L, L = definedP q.er := ⟨_, rfl⟩
              rw [← hL] at hown hwf HWS ⊢
              have HL := Lib.hid hL
              clear hL hb3 p0 p1 kQ hqa2
              go_wp2_with fail
              go_loopw [50] (fun i wx => ∃ (j : Nat) (T : List ByteArray), j ≤ L.length ∧ i = .int .i64 j ∧ SetT wx g n T ∧ Hid (∀ x, x ∈ T ↔ x ∈ S ∧ x ∉ L.take j) ∧ w3.grownBy wx (some g)) (fun i _ => L.length - (intOf i).toNat)
              case atStart => exact ⟨0, S, Nat.zero_le _, rfl, hset, Lib.hid (by simp), World.grownBy.refl _ _⟩
              case round =>
                obtain ⟨j, T, hj, rfl, hT, hTS, hg3⟩ := hrel
                by_cases hjl : j < L.length
                · obtain ⟨s, hs⟩ : ∃ s, L[j]? = some s := ⟨_, List.getElem?_eq_getElem hjl⟩
                  obtain ⟨b, off, u, rfl, bl, hu, hcu⟩ := (Reads.of_own (hset.is.own hown hg3)).at_ hjl
                  rw [strsV_get hs] at hu
                  injection hu with hu
                  subst hu
                  have hs8 := HWS.out s (List.mem_of_getElem? hs)
                  have HX : Hid (∀ x, x ∈ T.filter (fun y => y != s) ↔ x ∈ S ∧ x ∉ L.take (j + 1)) := fun x => by rw [take_mem hs, List.mem_filter, hTS.out x]; simp only [bne_iff_ne, ne_eq, not_or]; exact ⟨fun h => ⟨h.1.1, h.2, h.1.2⟩, fun h => ⟨⟨h.1, h.2.2⟩, h.2.1⟩⟩
                  clear hs
                  go_wp2_with (at_delete; refine wpList_setDelT _ rfl _ _ rfl g n _ hT rfl s rfl (by omega) ?_; intro w4 hT4 hg4)
                  go_roundw
                  case rel => exact ⟨j + 1, _, by omega, by go_num, hT4, HX, hg3.trans hg4⟩
                  case measure => simp [intOf]; omega
                · obtain rfl : j = L.length := by omega
                  have hbx := hb.grown hg3 hb.size (fun j hj => by cases hj; exact hgw)
                  have HN : Hid (∀ x, x ∈ T ↔ x ∈ wantS first (qs.map PtM.er) ∧ x ∉ haveS ((qs.take (k + 1)).map PtM.er)) := fun x => by rw [hTS.out x, haveS_take HQK.out, hS.out x, List.take_length, HL.out, not_or, and_assoc]
                  go_wp2
                  go_roundw
                  case rel => exact ⟨k + 1, n, T, by omega, by go_num, hT, HN, hbx⟩
                  case measure => simp [intOf]; omega
            · obtain rfl : k = qs.length := by omega
              go_wp2
              go_ret
              exact ⟨g, n, S, rfl, hset, fun x => by rw [hS.out x, List.take_length], hb⟩
end Go.Proofs.YtmlomnhjbmocfaaDoor
