/- archive.Choose: what it computes. -/
import Derived.Test.YtmlomnhjbmocfaaDoorArcA
import Derived.Test.YtmlomnhjbmocfaaDoorB1
import Derived.Test.YtmlomnhjbmocfaaDoorFaultW
set_option linter.all false
namespace Go.Proofs.YtmlomnhjbmocfaaDoor
open Go.RowKit

theorem Tryd.infoBoolA : (Tryd.prog.info? 4).map (fun i => (i.zero, i.size, i.bytes)) = some (some (.bool false), 1, 1) := by kernel_rfl
set_option maxRecDepth 100000 in
theorem make_boolA (n : Nat) (hn : n ≤ 1000000) (w : World) :
    (Instr.makeSlice 88 (.int .i64 (n : Int)) (.int .i64 (n : Int))).run Tryd.prog w = .ok (.slice (some ⟨w.heap.size, 0, none⟩) n n) (w.alloc (.cells (boolsV (List.replicate n false)).toArray 4)) := by
  obtain ⟨i0, hi, hz0, hz1, hz2⟩ := info_parts Tryd.infoBoolA
  rw [run_make_one 88 4 i0 (.bool false) Tryd.underlying88 hi hz0 hz1 rfl 1 hz2 n hn (by omega) w]
  congr 4
  unfold boolsV
  apply List.ext_getElem?
  intro j
  rcases Nat.lt_or_ge j n with hj | hj
  · simp [hj]
  · simp [hj]
theorem boolsV_get {l : List Bool} {k : Nat} {b : Bool} (h : l[k]? = some b) : (boolsV l).toArray[k]? = some (.bool b) := by
  rw [List.getElem?_toArray]; unfold boolsV; rw [List.getElem?_map, h]; rfl
theorem nm_get {w : World} {B : Nat} {A : Option Addr} {l : List ByteArray} (h : Reads w B 1 A l.length (strsV l)) {i : Nat} {s : ByteArray} (hx : l[i]? = some s) : ∃ b off, A = some ⟨b, off, none⟩ ∧ b < B ∧ w.cell? ⟨b, off + i, none⟩ = some (.string s) := by
  rw [strsV_flat] at h
  obtain ⟨b, off, e, hb, hc⟩ := cells_get (cells := fun s : ByteArray => [.string s]) (fun _ => rfl) h hx
  exact ⟨b, off, e, hb, by simpa using hc 0 _ rfl⟩
theorem choose1_any (x : ByteArray) (w : World) : Calls Tryd.prog 44 #[.string x] w fun e w' => e = .returned (.bool (!nameB x)) ∧ Below w.heap.size w w' := by
  go_enter Tryd.func44, Tryd.ntmps44
  go_wp2_with (go_at_call 45; refine (name_any _ _).mono ?_; rintro e w' ⟨rfl, rfl⟩)
  go_ret
  exact ⟨rfl, Below.refl _ _⟩

set_option maxHeartbeats 8000000 in
set_option maxRecDepth 100000 in
theorem idxFNm_any (A : Option Addr) (c : Nat) (l : List ByteArray) (pr : ByteArray → Bool) (w : World) (hR : Reads w w.heap.size 1 A l.length (strsV l)) (hlm : l.length ≤ 9223372036854775807)
    (HL : ∀ x ∈ l, ∀ W, Below w.heap.size w W → Calls Tryd.prog 44 #[.string x] W fun e w' => e = .returned (.bool (pr x)) ∧ Below W.heap.size W w') :
    Calls Tryd.prog 51 #[.slice A l.length c, .func (.func 44) #[] #[]] w
      fun e w' => (∃ n : Int, e = .returned (.int .i64 n) ∧ decide (0 ≤ n) = l.any pr) ∧ Below w.heap.size w w' := by
  have HL := Lib.hid HL
  go_enter Tryd.func51, Tryd.ntmps51
  go_wp2_with fail
  go_loopw [8] (fun i wr => ∃ k : Nat, k ≤ l.length ∧ i = .int .i64 k ∧ Hid ((l.take k).any pr = false) ∧ Below w.heap.size w wr) (fun i _ => l.length - (intOf i).toNat)
  case atStart => exact ⟨0, Nat.zero_le _, rfl, Lib.hid (by simp), Below.refl _ _⟩
  case round =>
    obtain ⟨k, hk, rfl, hno, hb⟩ := hrel
    by_cases hlt : k < l.length
    · obtain ⟨x, hx⟩ : ∃ x, l[k]? = some x := ⟨_, List.getElem?_eq_getElem hlt⟩
      obtain ⟨b, off, rfl, bl, c0⟩ := nm_get (hR.below hb) hx
      have HCx := HL.out x (List.mem_of_getElem? hx) wr hb
      have HY : Hid ((l.take (k + 1)).any pr = pr x) := by show _ = _; rw [List.take_add_one, hx, List.any_append, hno.out]; simp
      have HM : Hid (pr x = true → l.any pr = true) := fun h => List.any_eq_true.2 ⟨x, List.mem_of_getElem? hx, h⟩
      obtain ⟨t, ht⟩ : ∃ t, pr x = t := ⟨_, rfl⟩
      rw [ht] at HCx HY HM
      replace HCx := Lib.hid HCx
      clear hx ht
      cases t with
      | true =>
        have HM2 := Lib.hid (HM.out rfl)
        clear HM
        go_wp2_with (go_at_call 44; refine HCx.out.mono ?_; rintro e w' ⟨rfl, hb2⟩)
        go_ret
        exact ⟨⟨k, rfl, by rw [HM2.out]; exact decide_eq_true (by omega)⟩, hb.trans (hb2.mono hb.size)⟩
      | false =>
        go_wp2_with (go_at_call 44; refine HCx.out.mono ?_; rintro e w' ⟨rfl, hb2⟩)
        go_roundw
        case rel => exact ⟨k + 1, by omega, by go_num, HY, hb.trans (hb2.mono hb.size)⟩
        case measure => simp [intOf]; omega
    · obtain rfl : k = l.length := by omega
      go_wp2
      go_ret
      exact ⟨⟨-1, rfl, by have := hno.out; rw [List.take_length] at this; rw [this]; rfl⟩, hb⟩
set_option maxHeartbeats 8000000 in
theorem hasFNm_any (A : Option Addr) (c : Nat) (l : List ByteArray) (pr : ByteArray → Bool) (w : World) (hR : Reads w w.heap.size 1 A l.length (strsV l)) (hlm : l.length ≤ 9223372036854775807)
    (HL : ∀ x ∈ l, ∀ W, Below w.heap.size w W → Calls Tryd.prog 44 #[.string x] W fun e w' => e = .returned (.bool (pr x)) ∧ Below W.heap.size W w') :
    Calls Tryd.prog 18 #[.slice A l.length c, .func (.func 44) #[] #[]] w
      fun e w' => e = .returned (.bool (l.any pr)) ∧ Below w.heap.size w w' := by
  have HI := Lib.hid (idxFNm_any A c l pr w hR hlm HL)
  clear HL
  go_enter Tryd.func18, Tryd.ntmps18
  go_wp2_with fail
  refine HI.out.mono ?_
  rintro e w1 ⟨⟨n, rfl, hn⟩, hb⟩
  replace hn := Lib.hid hn
  go_wp2
  go_ret
  exact ⟨by rw [← hn.out]; rfl, hb⟩
def ChooseIs (w : World) (r : List Prt × Int) (e : Ending) (w' : World) : Prop :=
  ∃ (z : Value) (qs : List PtM), e = .returned (.tuple #[z, .int .i64 r.2]) ∧ (r.2 ≠ 0 → z = .slice none 0 0) ∧ (r.2 = 0 → EV w w' w.heap.size z qs ∧ qs.map PtM.er = r.1) ∧ Below w.heap.size w w'
theorem chooseP_bad {l : List Itm} {first : List ByteArray} {n : Int} (h : chooseE l first = n) (hn : n ≠ 0) : chooseP l first = ([], n) := by unfold chooseP; rw [h, if_pos hn]
theorem chooseP_ok {l : List Itm} {first : List ByteArray} (h : chooseE l first = 0) : chooseP l first = (chosenP l first, 0) := by unfold chooseP; rw [h, if_neg (by simp)]
theorem choose_err {w w' : World} {r : List Prt × Int} {n : Int} (hr : r = ([], n)) (hn : n ≠ 0) (hb : Below w.heap.size w w') : ChooseIs w r (.returned (.tuple #[.slice none 0 0, .int .i64 n])) w' :=
  ⟨_, [], by rw [hr], fun _ => rfl, fun h0 => absurd (by rw [hr] at h0; exact h0) hn, hb⟩
theorem falses_rep (n : Nat) : falses (List.replicate n false) = n := by
  unfold falses
  rw [List.countP_replicate]
  simp
def sliceLen : Value → Nat
  | .slice _ n _ => n
  | _ => 0
def isT : Value → Nat
  | .bool true => 1
  | _ => 0

/-- While parts are chosen: so many, in a row of the call's own; what is wanted, what is there. -/
structure CH (w wr : World) (gS gW gD : Nat) (first : List ByteArray) (z : Value) (qs : List PtM) : Prop where
  ev : EV w wr w.heap.size z qs
  st : StIs wr gS gW gD (12 + 480 * qs.length) (60 * qs.length) first (qs.map PtM.er)
section
variable {w wr w' : World} {gS gW gD : Nat} {first : List ByteArray} {z : Value} {qs : List PtM}
theorem CH.all (h : CH w wr gS gW gD first z qs) (hs : Below wr.heap.size wr w') : CH w w' gS gW gD first z qs := ⟨h.ev.all hs, h.st.all hs⟩
/-- A box of a call's own written. -/
theorem CH.set_ (h : CH w wr gS gW gD first z qs) {g : Nat} {cs : Array Value} (hb : Blk wr g 4 cs) (hg : w.heap.size ≤ g) (j : Nat) (u : Value) : CH w (wr.setCell ⟨g, j, none⟩ u) gS gW gD first z qs :=
  ⟨⟨own_setCell h.ev.hz (own_blk_ne h.ev.hz hb (by decide)) u, fun q hq => (h.ev.each q hq).blk hb (by decide) (by decide) (by decide) (by decide) u, h.ev.hB.setCell hg u, by have := h.ev.hb; simpa [World.setCell] using this⟩, h.st.set_ hb (by decide) j u⟩
/-- What is wanted, and there, one part on; the row still without it. -/
structure CH2 (w wr : World) (gS gW gD : Nat) (first : List ByteArray) (z : Value) (qs : List PtM) (p : Prt) : Prop where
  ev : EV w wr w.heap.size z qs
  st : StIs wr gS gW gD (12 + 480 * (qs.length + 1)) (60 * (qs.length + 1)) first (qs.map PtM.er ++ [p])
theorem CH2.all {p : Prt} (h : CH2 w wr gS gW gD first z qs p) (hs : Below wr.heap.size wr w') : CH2 w w' gS gW gD first z qs p := ⟨h.ev.all hs, h.st.all hs⟩
theorem CH2.set_ {p : Prt} (h : CH2 w wr gS gW gD first z qs p) {g : Nat} {cs : Array Value} (hb : Blk wr g 4 cs) (hg : w.heap.size ≤ g) (j : Nat) (u : Value) : CH2 w (wr.setCell ⟨g, j, none⟩ u) gS gW gD first z qs p :=
  ⟨⟨own_setCell h.ev.hz (own_blk_ne h.ev.hz hb (by decide)) u, fun q hq => (h.ev.each q hq).blk hb (by decide) (by decide) (by decide) (by decide) u, h.ev.hB.setCell hg u, by have := h.ev.hb; simpa [World.setCell] using this⟩, h.st.set_ hb (by decide) j u⟩
theorem CH.take {p : Prt} (h : CH w wr gS gW gD first z qs) (hW : w.heap.size ≤ gW) (hD : w.heap.size ≤ gD) (ht : TwoBy wr w' gW gD) (hs : StIs w' gS gW gD (12 + 480 * qs.length + 480) (60 * qs.length + 60) first (qs.map PtM.er ++ [p])) : CH2 w w' gS gW gD first z qs p :=
  ⟨h.st.two_ev ht h.ev hW hD, by
    have e1 : 12 + 480 * (qs.length + 1) = 12 + 480 * qs.length + 480 := by omega
    have e2 : 60 * (qs.length + 1) = 60 * qs.length + 60 := by omega
    rw [e1, e2]
    exact hs⟩
theorem CH2.push {p : Prt} (h : CH2 w wr gS gW gD first z qs p) {q : PtM} (hq : q.Own wr w.heap.size) (he : q.er = p) {w5 : World} {v' : Value} (ho : w5.ownsRow w.heap.size 25 2 v' (qs.length + 1) (ptsV qs ++ q.cells)) (hg : wr.grownBy w5 z.ownBlock) : CH w w5 gS gW gD first v' (qs ++ [q]) :=
  ⟨h.ev.push hq ho hg, by
    have := h.st.row h.ev.hz hg (by decide)
    rw [List.map_append, List.length_append]
    rw [← he] at this
    exact this⟩
end

set_option maxRecDepth 100000 in
set_option maxHeartbeats 40000000 in
theorem choose_any (A Af : Option Addr) (c cf : Nat) (l : List ItM) (first : List ByteArray) (w : World) (h : ItsAt w w.heap.size A l) (hlm : l.length ≤ 9223372036854775807) (hf : Reads w w.heap.size 1 Af first.length (strsV first)) (hfm : first.length ≤ 9223372036854775807) :
    Calls Tryd.prog 14 #[.slice A l.length c, .slice Af first.length cf] w (ChooseIs w (chooseP (l.map ItM.er) first)) := by
  have hrow := h.row
  have HIT : Hid (∀ x ∈ l, x.Good w w.heap.size) := h.each
  have HK := Lib.hid (arcCheck_any A c l w h hlm)
  have hmm := @run_makeMap Tryd.prog
  clear h
  by_cases hc : ckItems (l.map ItM.er) = 0
  · obtain ⟨h12, hit⟩ := ckItems_zero hc
    rw [List.length_map] at h12
    rw [hc] at HK
    go_enter Tryd.func14, Tryd.ntmps14
    go_wp2_with fail
    refine HK.out.mono ?_
    rintro e w1 ⟨rfl, hb1⟩
    by_cases hf12 : 12 < first.length
    · have HE := Lib.hid (chooseP_bad (l := l.map ItM.er) (first := first) (n := 2) (by unfold chooseE; rw [if_neg (by simp [hc]), if_pos hf12]) (by decide))
      have q1 : decide ((12 : Int) < (first.length : Int)) = true := decide_eq_true (by omega)
      have q2 : decide (12 < first.length) = true := decide_eq_true hf12
      clear hf12 hc hit
      go_wp2
      go_ret2
      exact choose_err HE.out (by decide) hb1
    · have q1 : decide ((12 : Int) < (first.length : Int)) = false := decide_eq_false (by omega)
      have q2 : decide (12 < first.length) = false := decide_eq_false hf12
      have HFN := Lib.hid (hasFNm_any Af cf first (fun s => !nameB s) w1 ((hf.below hb1).more hb1.size) hfm (fun x _ W _ => choose1_any x W))
      obtain ⟨t, ht⟩ : ∃ t, (first.any fun s => !nameB s) = t := ⟨_, rfl⟩
      rw [ht] at HFN
      have HC := Lib.hid hc
      have HF12 := Lib.hid hf12
      have HT := Lib.hid ht
      clear hc hf12 ht
      cases t with
      | true =>
        have HE := Lib.hid (chooseP_bad (l := l.map ItM.er) (first := first) (n := 1) (by unfold chooseE; rw [if_neg (by simp [HC.out]), if_neg HF12.out, if_pos HT.out]) (by decide))
        clear hit
        go_wp2_with (go_at_call 18; refine HFN.out.mono ?_; rintro e w2 ⟨rfl, hb2⟩)
        go_ret2
        exact choose_err HE.out (by decide) (hb1.trans (hb2.mono hb1.size))
      | false =>
        have HE := Lib.hid (chooseP_ok (l := l.map ItM.er) (first := first) (by unfold chooseE; rw [if_neg (by simp [HC.out]), if_neg HF12.out, if_neg (by rw [HT.out]; simp)]))
        have HNS : Hid (∀ s ∈ first, s.size ≤ 8) := fun s hs => by
          have := List.any_eq_false.1 HT.out s hs
          exact nameB_short (by simpa using this)
        have HII := Lib.hid hit
        clear hit
        go_wp2_with (go_at_call 18; refine HFN.out.mono ?_; rintro e w2 ⟨rfl, hb2⟩)
        have hb02 := hb1.trans (hb2.mono hb1.size)
        have hbz : w.heap.size ≤ w2.heap.size := hb02.size
        go_upto_region 9 with (fail)
        have hz1 : (w2.alloc (.map #[] 0)).heap.size = w2.heap.size + 1 := by simp
        have hz2 : ((w2.alloc (.map #[] 0)).alloc (.map #[] 0)).heap.size = w2.heap.size + 1 + 1 := by simp
        have hset0 : SetIs (((w2.alloc (.map #[] 0)).alloc (.map #[] 0)).alloc (.cells #[.map (some w2.heap.size), .map (some (w2.heap.size + 1))] 83)) w2.heap.size 0 [] := ((SetIs.new w2).alloc _).alloc _
        have hset1 : SetIs (((w2.alloc (.map #[] 0)).alloc (.map #[] 0)).alloc (.cells #[.map (some w2.heap.size), .map (some (w2.heap.size + 1))] 83)) (w2.heap.size + 1) 0 [] := by
          have := (SetIs.new (w2.alloc (.map #[] 0))).alloc (.cells #[.map (some w2.heap.size), .map (some (w2.heap.size + 1))] 83)
          rw [hz1] at this
          exact this
        have kS := Blk.new ((w2.alloc (.map #[] 0)).alloc (.map #[] 0)) 83 #[.map (some w2.heap.size), .map (some (w2.heap.size + 1))]
        rw [hz2] at kS
        have hb3 : Below w.heap.size w (((w2.alloc (.map #[] 0)).alloc (.map #[] 0)).alloc (.cells #[.map (some w2.heap.size), .map (some (w2.heap.size + 1))] 83)) := ((hb02.alloc hb02.size _).alloc (by rw [hz1]; omega) _).alloc (by rw [hz2]; omega) _
        obtain ⟨W3, hW3⟩ : ∃ W, W = ((w2.alloc (.map #[] 0)).alloc (.map #[] 0)).alloc (.cells #[.map (some w2.heap.size), .map (some (w2.heap.size + 1))] 83) := ⟨_, rfl⟩
        obtain ⟨gS, hgS⟩ : ∃ g, g = w2.heap.size + 1 + 1 := ⟨_, rfl⟩
        obtain ⟨gD, hgD⟩ : ∃ g, g = w2.heap.size + 1 := ⟨_, rfl⟩
        obtain ⟨gW, hgW⟩ : ∃ g, g = w2.heap.size := ⟨_, rfl⟩
        have hWg : w.heap.size ≤ gW := by omega
        have hDg : w.heap.size ≤ gD := by omega
        have hne : gW ≠ gD := by omega
        rw [← hgS] at kS ⊢
        rw [← hgD] at kS hset0 hset1 hb3 hW3 ⊢
        rw [← hgW] at kS hset0 hset1 hb3 hW3 ⊢
        rw [← hW3] at kS hset0 hset1 hb3 ⊢
        clear hz1 hz2 hW3 hgS hgD hgW hbz hb02 hb2 HFN hmm
        go_wp2_with fail
        go_loopw [33] (fun i wr => ∃ k : Nat, k ≤ first.length ∧ i = .int .i64 k ∧ SetIs wr gW k (first.take k) ∧ W3.grownBy wr (some gW)) (fun i _ => first.length - (intOf i).toNat)
        case atStart => exact ⟨0, Nat.zero_le _, rfl, by simpa using hset0, World.grownBy.refl _ _⟩
        case round =>
          obtain ⟨k, hk, rfl, hset, hg⟩ := hrel
          have hBr : Below w.heap.size w wr := hb3.grown hg hb3.size (fun g hg' => by injection hg' with hg'; omega)
          by_cases hlt : k < first.length
          · obtain ⟨s, hs⟩ : ∃ s, first[k]? = some s := ⟨_, List.getElem?_eq_getElem hlt⟩
            obtain ⟨b, off, rfl, bl, c0⟩ := nm_get (hf.below hBr) hs
            have s0 := (hset0.blk kS hg).cell 0
            have hs8 := HNS.out s (List.mem_of_getElem? hs)
            have hk12 : k < 100 := by have := HF12.out; omega
            have HX : Hid (∀ x, x ∈ s :: first.take k ↔ x ∈ first.take (k + 1)) := fun x => by
              rw [List.take_add_one, hs]
              simp only [List.mem_cons, List.mem_append, Option.toList_some, List.not_mem_nil, or_false]
              exact Or.comm
            clear hs
            go_wp2_with (at_mapUpdate; refine wpList_setPut _ rfl _ _ _ rfl gW k _ hset rfl (by omega) s rfl rfl (by omega) ?_; intro w4 hs2 hg2)
            go_roundw
            case rel => exact ⟨k + 1, by omega, by go_num, hs2.ext HX.out, hg.trans hg2⟩
            case measure => simp [intOf]; omega
          · obtain rfl : k = first.length := by omega
            have hf12 := HF12.out
            have hS : StIs wr gS gW gD (12 + 480 * ([] : List PtM).length) (60 * ([] : List PtM).length) first (([] : List PtM).map PtM.er) :=
              ⟨hset0.blk kS hg, hne, ((hset.mono (by simp; omega)).ext fun x => by rw [List.take_length]; simp [wantS]), (hset1.kept hg (fun e => hne (by injection e with e; exact e.symm))).mono (by simp)⟩
            have hCH : CH w wr gS gW gD first (.slice none 0 0) [] := ⟨⟨World.ownsRow_nil _ _ _ _, fun q hq => absurd hq (by simp), hBr, hBr.size⟩, hS⟩
            clear hset hS hg hBr kS hset0 hset1 hb3 hne HNS hf hfm HT HF12 hf12
            go_wp2_with fail
            go_loopw [10, 45] (fun z i wr => ∃ (k : Nat) (qs : List PtM), k ≤ l.length ∧ i = .int .i64 k ∧ qs.length ≤ 8 * k ∧ Hid (qs.map PtM.er = chosenP ((l.map ItM.er).take k) first) ∧ CH w wr gS gW gD first z qs) (fun _ i _ => l.length - (intOf i).toNat)
            case atStart => exact ⟨0, [], Nat.zero_le _, rfl, Nat.le_refl _, Lib.hid rfl, hCH⟩
            case round =>
              clear hCH
              obtain ⟨k, qs, hk, rfl, hq8, hch, hCH⟩ := hrel
              obtain ⟨Az, cz, rfl, hz1, hz2⟩ := own_form hCH.ev.hz
              by_cases hlt : k < l.length
              · obtain ⟨x, hx⟩ : ∃ x, l[k]? = some x := ⟨_, List.getElem?_eq_getElem hlt⟩
                have hxe : (l.map ItM.er)[k]? = some x.er := by rw [List.getElem?_map, hx]; rfl
                have hxm := List.mem_of_getElem? hx
                obtain ⟨b, off, rfl, bl, c0, c1⟩ := it_get (hrow.below hCH.ev.hB) hx
                obtain ⟨hp8, hp1, hpok⟩ := ckItem_zero (HII.out x.er (List.mem_map_of_mem hxm))
                have hp8' : x.ps.length ≤ 8 := by simpa [ItM.er] using hp8
                have HP1 : Hid (x.arch = false → x.ps.length = 1) := fun ha => by simpa [ItM.er] using hp1 ha
                have HPO : Hid (∀ p ∈ x.ps, ckPart p.er = 0) := fun p hp => hpok p.er (by simp only [ItM.er]; exact List.mem_map_of_mem hp)
                have HG := Lib.hid (HIT.out x hxm)
                have HXE := Lib.hid hxe
                clear hx hxm hxe hp8 hp1 hpok
                go_upto_region 18 with (fail)
                have kX := Blk.new wr 85 #[.bool x.arch, .slice x.pa x.ps.length x.pc]
                have hbx : Below wr.heap.size wr (wr.alloc (.cells #[.bool x.arch, .slice x.pa x.ps.length x.pc] 85)) := by (repeat' (first | exact Below.refl _ _ | assumption | refine Below.setCell ?_ (by first | omega | exact Below.size (by assumption) | (simp; done) | (simp; omega)) _ | refine Below.alloc ?_ (by first | omega | exact Below.size (by assumption) | (simp; done) | (simp; omega)) _ | refine Below.drew ?_ | refine below_drewN ?_ _))
                have hbw := hCH.ev.hb
                replace hCH := hCH.all hbx
                obtain ⟨gX, hgX⟩ : ∃ g, g = wr.heap.size := ⟨_, rfl⟩
                obtain ⟨W, hW⟩ : ∃ W, W = wr.alloc (.cells #[.bool x.arch, .slice x.pa x.ps.length x.pc] 85) := ⟨_, rfl⟩
                rw [← hgX] at kX ⊢
                rw [← hW] at kX hCH ⊢
                have hgXw : w.heap.size ≤ gX := by rw [hgX]; exact hbw
                clear hW hgX hbx c0 c1 bl hbw
                have hxg := HG.out.keep hCH.ev.hB (Nat.le_refl _)
                have x0 := kX.cell 0
                have x1 := kX.cell 1
                by_cases har : x.arch = false
                · have h1 := HP1.out har
                  obtain ⟨p, hp⟩ : ∃ p, x.ps[0]? = some p := ⟨_, List.getElem?_eq_getElem (by omega)⟩
                  have hpm := List.mem_of_getElem? hp
                  obtain ⟨b1, o1, hxa, bl1, d0, d1⟩ := pt_get hxg.ps.row hp
                  simp only [Nat.zero_mul, Nat.add_zero] at d0 d1
                  have hpA := HG.out.ps.each p hpm
                  have hok := HPO.out p hpm
                  have HIS : Hid (itemStep first (qs.map PtM.er) x.er = qs.map PtM.er ++ [p.er]) := by
                    show _ = _
                    unfold itemStep
                    rw [show x.er.arch = false from har, if_neg (by simp)]
                    have e : x.er.ps = [p.er] := by
                      obtain ⟨p', hp'⟩ := List.length_eq_one_iff.1 h1
                      rw [hp'] at hp
                      simp at hp
                      simp [ItM.er, hp', hp]
                    rw [e]; rfl
                  have HXA := Lib.hid hxa
                  rw [har] at x0
                  rw [h1, hxa] at x1
                  replace hp := Lib.hid hp
                  clear hxa har hpm
                  go_wp2_with fail
                  refine (take_any p w.heap.size gS gW gD _ _ first (qs.map PtM.er) W (hpA.keep hCH.ev.hB (Nat.le_refl _)) hCH.ev.hb hWg hDg hok hCH.st (by omega) (by omega)).mono ?_
                  rintro e w4 ⟨rfl, hst4, htw⟩
                  have hC2 := hCH.take hWg hDg htw hst4
                  have kX4 := hCH.st.two_blk htw kX
                  clear hst4 htw hCH d0 d1 x0 x1 hxg
                  have hxg := HG.out.keep hC2.ev.hB (Nat.le_refl _)
                  obtain ⟨b1, o1, hxa, bl1, d0, d1⟩ := pt_get hxg.ps.row hp.out
                  simp only [Nat.zero_mul, Nat.add_zero] at d0 d1
                  have x1 := kX4.cell 1
                  rw [h1, hxa] at x1
                  have hpA4 := (hpA.keep hC2.ev.hB hC2.ev.hb)
                  have hsm := small_of hok
                  clear hxa
                  go_wp2_with fail
                  refine (copy_any p w4 hpA4 hsm).mono ?_
                  rintro e w5 ⟨⟨nf, nd, na, nc, nda, ndc⟩, rfl, own3, er3, hb3⟩
                  dsimp only
                  have own3' := own3.mono hC2.ev.hb
                  replace hC2 := hC2.all hb3
                  replace er3 := Lib.hid er3
                  have hqm : qs.length ≤ 96 := by omega
                  obtain ⟨i0, hi, hiz, his, hib⟩ := info_parts Tryd.infoParts
                  clear hb3 kX4 d0 d1 x1 hpA4 hpA hxg
                  (go_wp2_with (at_builtin; refine wpList_append_own _ rfl (.tmp 58) (.tmp 64) 41 rfl w.heap.size 25 i0 _ 2 48 Tryd.underlying41 hi hiz his hib rfl (by decide) _ _ _ rfl (hC2.ev.hz.alloc _) ⟨w5.heap.size, 0, none⟩ 1 1 [.slice na nf.length nc, .slice nda nd.length ndc] rfl rfl ?c1 ?c2 ?c3 ?c4 ?c5 ?_; (case c1 => exact fun j u hu => cells_new j u hu); (case c2 => exact pt_one ⟨nf, nd, na, nc, nda, ndc⟩); (case c3 => unfold maxLen; omega); (case c4 => omega); (case c5 => have := hC2.ev.hb; simp; omega); intro v' w6 hown6 hg6 _; have hst : Below w5.heap.size w5 (w5.alloc (.cells #[.slice na nf.length nc, .slice nda nd.length ndc] 25)) := (by (repeat' (first | exact Below.refl _ _ | assumption | refine Below.setCell ?_ (by first | omega | exact Below.size (by assumption) | (simp; done) | (simp; omega)) _ | refine Below.alloc ?_ (by first | omega | exact Below.size (by assumption) | (simp; done) | (simp; omega)) _ | refine Below.drew ?_ | refine below_drewN ?_ _))); have kGrow := hg6; have hC6 := (hC2.all hst).push (q := ⟨nf, nd, na, nc, nda, ndc⟩) (own3'.alloc _) er3.out hown6 hg6; clear hst hg6 hown6))
                  go_roundw
                  case rel => exact ⟨k + 1, qs ++ [⟨nf, nd, na, nc, nda, ndc⟩], by omega, by go_num, by rw [List.length_append]; simp only [List.length_singleton]; omega, Lib.hid (by rw [List.map_append, chosen_take HXE.out, ← hch.out, HIS.out, ← er3.out]; rfl), hC6⟩
                  case measure => simp [intOf]; omega
                · have har' : x.arch = true := by simpa using har
                  rw [har'] at x0
                  have HIS : Hid (itemStep first (qs.map PtM.er) x.er = archP first x.er.ps (qs.map PtM.er)) := by
                    show _ = _
                    unfold itemStep
                    rw [show x.er.arch = true from har', if_pos rfl]
                  have hmk := make_boolA x.ps.length (by omega)
                  have hel : x.er.ps.length = x.ps.length := by simp [ItM.er]
                  have HEL := Lib.hid hel
                  clear har har' hel
                  go_upto_region 22 with (fail)
                  have kT := Blk.new W 4 (boolsV (List.replicate x.ps.length false)).toArray
                  have hbx : Below W.heap.size W (W.alloc (.cells (boolsV (List.replicate x.ps.length false)).toArray 4)) := by (repeat' (first | exact Below.refl _ _ | assumption | refine Below.setCell ?_ (by first | omega | exact Below.size (by assumption) | (simp; done) | (simp; omega)) _ | refine Below.alloc ?_ (by first | omega | exact Below.size (by assumption) | (simp; done) | (simp; omega)) _ | refine Below.drew ?_ | refine below_drewN ?_ _))
                  have hgT0 : w.heap.size ≤ W.heap.size := hCH.ev.hb
                  replace hCH := hCH.all hbx
                  replace kX := kX.all hbx
                  obtain ⟨gT, hgT⟩ : ∃ g, g = W.heap.size := ⟨_, rfl⟩
                  obtain ⟨W4, hW4⟩ : ∃ W', W' = W.alloc (.cells (boolsV (List.replicate x.ps.length false)).toArray 4) := ⟨_, rfl⟩
                  have hgTw : w.heap.size ≤ gT := by rw [hgT]; exact hgT0
                  rw [← hgT] at kT ⊢
                  rw [← hW4] at kT kX hCH ⊢
                  clear hW4 hgT hbx hgT0 x0 x1 hxg hmk
                  have HAR : Hid (archP first x.er.ps (qs.map PtM.er) = if true = true then archN first x.er.ps (x.ps.length + 1) (List.replicate x.ps.length false) (qs.map PtM.er) else qs.map PtM.er) := by
                    show _ = _
                    unfold archP
                    rw [HEL.out, if_pos rfl]
                  go_wp2_with fail
                  go_loopw [10, 14] (fun z a wx => ∃ (ag : Bool) (n : Nat) (t : List Bool) (qs' : List PtM), a = .bool ag ∧ Hid (t.length = x.ps.length) ∧ Blk wx gT 4 (boolsV t).toArray ∧ Blk wx gX 85 #[.bool x.arch, .slice x.pa x.ps.length x.pc] ∧
                    Hid (archP first x.er.ps (qs.map PtM.er) = if ag = true then archN first x.er.ps n t (qs'.map PtM.er) else qs'.map PtM.er) ∧ falses t < n ∧ qs'.length + falses t = qs.length + x.ps.length ∧ CH w wx gS gW gD first z qs') (fun z a _ => 2 * (qs.length + x.ps.length - sliceLen z) + isT a)
                  case atStart => exact ⟨true, x.ps.length + 1, List.replicate x.ps.length false, qs, rfl, Lib.hid (by simp), kT, kX, HAR, by rw [falses_rep]; omega, by rw [falses_rep], hCH⟩
                  case round =>
                    clear hCH kT kX HAR
                    obtain ⟨ag, n, t, qs', rfl, htl, kT, kX, har, hfn, hcnt, hCH⟩ := hrel
                    obtain ⟨Ay, cy, rfl, hy1, hy2⟩ := own_form hCH.ev.hz
                    have x1 := kX.cell 1
                    cases ag with
                    | false =>
                      have HR : Hid (archP first x.er.ps (qs.map PtM.er) = qs'.map PtM.er) := by show _ = _; rw [har.out, if_neg (by simp)]
                      go_wp2_with fail
                      go_roundw
                      case rel => exact ⟨k + 1, qs', by omega, by go_num, by omega, Lib.hid (by rw [chosen_take HXE.out, ← hch.out, HIS.out, HR.out]), hCH⟩
                      case measure => simp [intOf]; omega
                    | true =>
                      go_wp2_with fail
                      go_loopw [10, 14, 74] (fun z a j wy => ∃ (m : Nat) (ag' : Bool) (t' : List Bool) (qs'' : List PtM), m ≤ x.ps.length ∧ j = .int .i64 m ∧ a = .bool ag' ∧ Hid (passTo first x.er.ps t (qs'.map PtM.er) m = (t', qs''.map PtM.er, ag')) ∧ Blk wy gT 4 (boolsV t').toArray ∧ Blk wy gX 85 #[.bool x.arch, .slice x.pa x.ps.length x.pc] ∧ CH w wy gS gW gD first z qs'') (fun _ _ j _ => x.ps.length - (intOf j).toNat)
                      case atStart => exact ⟨0, false, t, qs', Nat.zero_le _, rfl, rfl, Lib.hid rfl, kT, kX, hCH⟩
                      case round =>
                        clear hCH kT kX x1
                        obtain ⟨m, ag', t', qs'', hm, rfl, rfl, hps, kT, kX, hCH⟩ := hrel
                        obtain ⟨Au, cu, rfl, hu1, hu2⟩ := own_form hCH.ev.hz
                        have hcn := passTo_count first x.er.ps t (qs'.map PtM.er) (by rw [htl.out, HEL.out]) m (by rw [HEL.out]; exact hm)
                        rw [hps.out, HEL.out] at hcn
                        simp only [List.length_map] at hcn
                        obtain ⟨hc1, hc2, hc3, hc4⟩ := hcn
                        have hqb : qs''.length ≤ 104 := by omega
                        by_cases hml : m < x.ps.length
                        · obtain ⟨p, hp⟩ : ∃ p, x.ps[m]? = some p := ⟨_, List.getElem?_eq_getElem hml⟩
                          have hpm := List.mem_of_getElem? hp
                          have hpe : x.er.ps[m]? = some p.er := by simp [ItM.er, hp]
                          have hxg := HG.out.keep hCH.ev.hB (Nat.le_refl _)
                          obtain ⟨b1, o1, hxa, bl1, d0, d1⟩ := pt_get hxg.ps.row hp
                          have hpA := HG.out.ps.each p hpm
                          have hok := HPO.out p hpm
                          have hsm := Lib.hid (small_of hok)
                          obtain ⟨tb, htb⟩ : ∃ b, t'[m]? = some b := ⟨_, List.getElem?_eq_getElem (by omega)⟩
                          have HTB := Lib.hid htb
                          have HPE := Lib.hid hpe
                          have HC3 := Lib.hid hc3
                          rw [hxa]
                          have HXA := Lib.hid hxa
                          clear hp hpm hpe hxa hxg htb hc3
                          go_upto_region 28 with (fail)
                          have kP := Blk.new wr 25 #[.slice p.fa p.frs.length p.fc, .slice p.da p.dfs.length p.dc]
                          have hbx : Below wr.heap.size wr (wr.alloc (.cells #[.slice (p).fa (p).frs.length (p).fc, .slice (p).da (p).dfs.length (p).dc] 25)) := by (repeat' (first | exact Below.refl _ _ | assumption | refine Below.setCell ?_ (by first | omega | exact Below.size (by assumption) | (simp; done) | (simp; omega)) _ | refine Below.alloc ?_ (by first | omega | exact Below.size (by assumption) | (simp; done) | (simp; omega)) _ | refine Below.drew ?_ | refine below_drewN ?_ _))
                          replace hCH := hCH.all hbx
                          replace kX := kX.all hbx
                          replace kT := kT.all hbx
                          obtain ⟨gP, hgP⟩ : ∃ g, g = wr.heap.size := ⟨_, rfl⟩
                          obtain ⟨W5, hW5⟩ : ∃ W', W' = wr.alloc (.cells #[.slice (p).fa (p).frs.length (p).fc, .slice (p).da (p).dfs.length (p).dc] 25) := ⟨_, rfl⟩
                          rw [← hgP] at kP ⊢
                          rw [← hW5] at kP kX kT hCH ⊢
                          clear hW5 hgP hbx d0 d1
                          have t0 := (kT.cell m).trans (boolsV_get HTB.out)
                          have p0 := kP.cell 0
                          have p1 := kP.cell 1
                          have hpA5 := hpA.keep hCH.ev.hB hCH.ev.hb
                          cases tb with
                          | true =>
                            have HS := Lib.hid ((passTo_succ first x.er.ps t (qs'.map PtM.er) m).trans ((congrArg (fun st => passStep first x.er.ps st m) hps.out).trans (passStep_leave HPE.out (.inl HTB.out))))
                            clear hpA5 p0 p1 hpA
                            go_wp2_with fail
                            go_roundw
                            case rel => exact ⟨m + 1, ag', t', qs'', by omega, by go_num, rfl, HS, kT, by rw [HXA.out] at kX; exact kX, hCH⟩
                            case measure => simp [intOf]; omega
                          | false =>
                            have HH := Lib.hid (helps_any p gS gW gD _ _ first (qs''.map PtM.er) W5 hpA5 hok hCH.st)
                            obtain ⟨hb, hhb⟩ : ∃ b, helpsB first (qs''.map PtM.er) p.er = b := ⟨_, rfl⟩
                            rw [hhb] at HH
                            have HHB := Lib.hid hhb
                            clear hhb hpA5
                            cases hb with
                            | false =>
                              have HS := Lib.hid ((passTo_succ first x.er.ps t (qs'.map PtM.er) m).trans ((congrArg (fun st => passStep first x.er.ps st m) hps.out).trans (passStep_leave HPE.out (.inr HHB.out))))
                              clear hpA
                              go_wp2_with (go_at_call 48; refine HH.out.mono ?_; rintro e w6 ⟨rfl, hb6⟩)
                              go_roundw
                              case rel => exact ⟨m + 1, ag', t', qs'', by omega, by go_num, rfl, HS, kT.all hb6, by have kX := kX.all hb6; rw [HXA.out] at kX; exact kX, hCH.all hb6⟩
                              case measure => simp [intOf]; omega
                            | true =>
                              have HS := Lib.hid ((passTo_succ first x.er.ps t (qs'.map PtM.er) m).trans ((congrArg (fun st => passStep first x.er.ps st m) hps.out).trans (passStep_take HPE.out HTB.out HHB.out)))
                              go_upto_region 29 with (go_at_call 48; refine HH.out.mono ?_; rintro e w6 ⟨rfl, hb6⟩)
                              replace hCH := hCH.all hb6
                              replace kX := kX.all hb6
                              replace kT := kT.all hb6
                              replace kP := kP.all hb6
                              clear hb6 p0 p1 t0 HH
                              have p0 := kP.cell 0
                              have p1 := kP.cell 1
                              go_wp2_with fail
                              refine (take_any p w.heap.size gS gW gD _ _ first (qs''.map PtM.er) w6 (hpA.keep hCH.ev.hB (Nat.le_refl _)) hCH.ev.hb hWg hDg hok hCH.st (by omega) (by omega)).mono ?_
                              rintro e w4 ⟨rfl, hst4, htw⟩
                              have hC2 := hCH.take hWg hDg htw hst4
                              replace kX := hCH.st.two_blk htw kX
                              replace kT := hCH.st.two_blk htw kT
                              replace kP := hCH.st.two_blk htw kP
                              clear hst4 htw hCH p0 p1
                              have t0 := (kT.cell m).trans (boolsV_get HTB.out)
                              have tf := kT.frozen m
                              go_upto_region 31 with (fail)
                              replace hC2 := hC2.set_ kT hgTw m (.bool true)
                              replace kX := kX.far (kX.ne_ kT (by decide)) (p := ⟨gT, m, none⟩) (.bool true)
                              replace kP := kP.far (kP.ne_ kT (by decide)) (p := ⟨gT, m, none⟩) (.bool true)
                              replace kT := kT.set_ m (.bool true)
                              obtain ⟨W7, hW7⟩ : ∃ W', W' = w4.setCell ⟨gT, m, none⟩ (.bool true) := ⟨_, rfl⟩
                              rw [← hW7] at kX kP kT hC2 ⊢
                              clear hW7 t0 tf
                              have p0 := kP.cell 0
                              have p1 := kP.cell 1
                              have hpA7 := hpA.keep hC2.ev.hB hC2.ev.hb
                              go_wp2_with fail
                              refine (copy_any p W7 hpA7 hsm.out).mono ?_
                              rintro e w5 ⟨⟨nf, nd, na, nc, nda, ndc⟩, rfl, own3, er3, hb3⟩
                              dsimp only
                              have own3' := own3.mono hC2.ev.hb
                              replace hC2 := hC2.all hb3
                              replace er3 := Lib.hid er3
                              replace kX := kX.all hb3
                              replace kT := kT.all hb3
                              obtain ⟨i0, hi, hiz, his, hib⟩ := info_parts Tryd.infoParts
                              clear hb3 hpA7 hpA p0 p1 kP
                              (go_wp2_with (at_builtin; refine wpList_append_own _ rfl (.tmp 95) (.tmp 98) 41 rfl w.heap.size 25 i0 _ 2 48 Tryd.underlying41 hi hiz his hib rfl (by decide) _ _ _ rfl (hC2.ev.hz.alloc _) ⟨w5.heap.size, 0, none⟩ 1 1 [.slice na nf.length nc, .slice nda nd.length ndc] rfl rfl ?c1 ?c2 ?c3 ?c4 ?c5 ?_; (case c1 => exact fun j u hu => cells_new j u hu); (case c2 => exact pt_one ⟨nf, nd, na, nc, nda, ndc⟩); (case c3 => unfold maxLen; omega); (case c4 => omega); (case c5 => have := hC2.ev.hb; simp; omega); intro v' w6 hown6 hg6 _; have hst : Below w5.heap.size w5 (w5.alloc (.cells #[.slice na nf.length nc, .slice nda nd.length ndc] 25)) := (by (repeat' (first | exact Below.refl _ _ | assumption | refine Below.setCell ?_ (by first | omega | exact Below.size (by assumption) | (simp; done) | (simp; omega)) _ | refine Below.alloc ?_ (by first | omega | exact Below.size (by assumption) | (simp; done) | (simp; omega)) _ | refine Below.drew ?_ | refine below_drewN ?_ _))); have kGrow := hg6; have hC6 := (hC2.all hst).push (q := ⟨nf, nd, na, nc, nda, ndc⟩) (own3'.alloc _) er3.out hown6 hg6; clear hst hg6 hown6))
                              have kX6 := (kX.alloc (.cells #[.slice na nf.length nc, .slice nda nd.length ndc] 25)).grown kGrow (Ne.symm (own_blk_ne hC2.ev.hz kX (by decide)))
                              have kT6 := (kT.alloc (.cells #[.slice na nf.length nc, .slice nda nd.length ndc] 25)).grown kGrow (Ne.symm (own_blk_ne hC2.ev.hz kT (by decide)))
                              have HBV : Hid ((boolsV t').toArray.setIfInBounds m (.bool true) = (boolsV (t'.set m true)).toArray) := by
                                show _ = _
                                rw [List.setIfInBounds_toArray]
                                unfold boolsV
                                rw [List.map_set]
                              rw [HBV.out] at kT6
                              go_roundw
                              case rel => exact ⟨m + 1, true, t'.set m true, qs'' ++ [⟨nf, nd, na, nc, nda, ndc⟩], by omega, by go_num, rfl, Lib.hid (by rw [HS.out, List.map_append, ← er3.out]; rfl), kT6, by rw [HXA.out] at kX6; exact kX6, hC6⟩
                              case measure => simp [intOf]; omega
                        · obtain rfl : m = x.ps.length := by omega
                          obtain ⟨n1, rfl⟩ : ∃ n1, n = n1 + 1 := ⟨n - 1, by omega⟩
                          have HU : Hid (archP first x.er.ps (qs.map PtM.er) = if ag' = true then archN first x.er.ps n1 t' (qs''.map PtM.er) else qs''.map PtM.er) := by
                            show _ = _
                            rw [har.out, if_pos (by trivial), archN, HEL.out, hps.out]
                          obtain ⟨n2, hn2, HU2⟩ : ∃ n2, falses t' < n2 ∧ Hid (archP first x.er.ps (qs.map PtM.er) = if ag' = true then archN first x.er.ps n2 t' (qs''.map PtM.er) else qs''.map PtM.er) := by
                            rcases ag' with _ | _
                            · exact ⟨falses t' + 1, by omega, HU⟩
                            · have := hc3.1 rfl
                              exact ⟨n1, by omega, HU⟩
                          have hms : 2 * (qs.length + x.ps.length - qs''.length) + isT (.bool ag') < 2 * (qs.length + x.ps.length - qs'.length) + 1 := by
                            rcases ag' with _ | _
                            · simp only [isT]; omega
                            · have := hc3.1 rfl
                              simp only [isT]; omega
                          have HMS := Lib.hid hms
                          clear hms hc3
                          go_wp2_with fail
                          go_roundw
                          case rel => exact ⟨ag', n2, t', qs'', rfl, Lib.hid (by omega), kT, kX, HU2, hn2, by omega, hCH⟩
                          case measure => simp only [sliceLen, isT]; have := HMS.out; simp only [isT] at this; omega
              · obtain rfl : k = l.length := by omega
                have HR : Hid (chooseP (l.map ItM.er) first = (qs.map PtM.er, 0)) := by
                  show _ = _
                  rw [HE.out, hch.out, List.take_of_length_le (by simp)]
                go_wp2
                go_ret2
                exact ⟨_, qs, by rw [HR.out]; rfl, fun h0 => absurd (by rw [HR.out]) h0, fun _ => ⟨hCH.ev, by rw [HR.out]⟩, hCH.ev.hB⟩
  · obtain ⟨n, hn⟩ : ∃ n, ckItems (l.map ItM.er) = n := ⟨_, rfl⟩
    have HE := Lib.hid (chooseP_bad (l := l.map ItM.er) (first := first) (n := n) (by unfold chooseE; rw [if_pos hc]; exact hn) (by rw [← hn]; exact hc))
    rw [hn] at HK hc
    have t1 : (n != 0) = true := by simpa using hc
    have HN := Lib.hid hc
    clear hn hc
    go_enter Tryd.func14, Tryd.ntmps14
    go_wp2_with fail
    refine HK.out.mono ?_
    rintro e w1 ⟨rfl, hb1⟩
    go_wp2
    go_ret2
    exact choose_err HE.out HN.out hb1
end Go.Proofs.YtmlomnhjbmocfaaDoor
