/- ArcJ: texts that belong together. -/
import Derived.Deep.RegionHeld3
import Derived.Test.YtbhjdinjoonngaaArcI
import Derived.Test.YtbhjdinjoonngaaFaultW
import Derived.Test.YtbhjdinjoonngaaMakeN
import Derived.Test.YtbhjdinjoonngaaRefOwn
import Derived.Test.YtbhjdinjoonngaaSameW
set_option linter.all false
/- archive.Choose: what it computes. -/
namespace Go.Proofs.Ytbhjdinjoonngaa
open Go.RowKit

theorem Try.infoBoolA : (Try.prog.info? 4).map (fun i => (i.zero, i.size, i.bytes)) = some (some (.bool false), 1, 1) := by kernel_rfl
set_option maxRecDepth 100000 in
theorem make_boolA (n : Nat) (hn : n ≤ 1000000) (w : World) :
    (Instr.makeSlice 24 (.int .i64 (n : Int)) (.int .i64 (n : Int))).run Try.prog w = .ok (.slice (some ⟨w.heap.size, 0, none⟩) n n) (w.alloc (.cells (boolsV (List.replicate n false)).toArray 4)) := by
  obtain ⟨i0, hi, hz0, hz1, hz2⟩ := info_parts Try.infoBoolA
  rw [run_make_one 24 4 i0 (.bool false) Try.underlying24 hi hz0 hz1 rfl 1 hz2 n hn (by omega) w]
  congr 4
  unfold boolsV
  apply List.ext_getElem?
  intro j
  rcases Nat.lt_or_ge j n with hj | hj
  · simp [hj]
  · simp [hj]
theorem boolsV_get {l : List Bool} {k : Nat} {b : Bool} (h : l[k]? = some b) : (boolsV l).toArray[k]? = some (.bool b) := by
  rw [List.getElem?_toArray]; unfold boolsV; rw [List.getElem?_map, h]; rfl
theorem nm_get {w : World} {B : Nat} {A : Option Addr} {l : List ByteArray} (h : Reads w B 1 A l.length (strsV l)) {i : Nat} {s : ByteArray} (hx : l[i]? = some s) : ∃ b off, A = some ⟨b, off, none⟩ ∧ b < B ∧ w.cell? ⟨b, off + i, none⟩ = some (.string s) := by
  rw [strsV_flat] at h
  obtain ⟨b, off, e, hb, hc⟩ := cells_get (cells := fun s : ByteArray => [.string s]) (fun _ => rfl) h hx
  exact ⟨b, off, e, hb, by simpa using hc 0 _ rfl⟩
theorem choose1_any (x : ByteArray) (w : World) : Calls Try.prog 87 #[.string x] w fun e w' => e = .returned (.bool (!nameB x)) ∧ Below w.heap.size w w' := by
  go_enter Try.func87, Try.ntmps87
  go_wp2_with (go_at_call 88; refine (name_any _ _).mono ?_; rintro e w' ⟨rfl, rfl⟩)
  go_ret
  exact ⟨rfl, Below.refl _ _⟩

set_option maxHeartbeats 8000000 in
set_option maxRecDepth 100000 in
theorem idxFNm_any (A : Option Addr) (c : Nat) (l : List ByteArray) (pr : ByteArray → Bool) (w : World) (hR : Reads w w.heap.size 1 A l.length (strsV l)) (hlm : l.length ≤ 9223372036854775807)
    (HL : ∀ x ∈ l, ∀ W, Below w.heap.size w W → Calls Try.prog 87 #[.string x] W fun e w' => e = .returned (.bool (pr x)) ∧ Below W.heap.size W w') :
    Calls Try.prog 133 #[.slice A l.length c, .func (.func 87) #[] #[]] w
      fun e w' => (∃ n : Int, e = .returned (.int .i64 n) ∧ decide (0 ≤ n) = l.any pr) ∧ Below w.heap.size w w' := by
  have HL := Lib.hid HL
  go_enter Try.func133, Try.ntmps133
  go_wp2_with fail
  go_loopw [8] (fun i wr => ∃ k : Nat, k ≤ l.length ∧ i = .int .i64 k ∧ Hid ((l.take k).any pr = false) ∧ Below w.heap.size w wr) (fun i _ => l.length - (intOf i).toNat)
  case atStart => exact ⟨0, Nat.zero_le _, rfl, Lib.hid (by simp), Below.refl _ _⟩
  case round =>
    obtain ⟨k, hk, rfl, hno, hb⟩ := hrel
    by_cases hlt : k < l.length
    · obtain ⟨x, hx⟩ : ∃ x, l[k]? = some x := ⟨_, List.getElem?_eq_getElem hlt⟩
      obtain ⟨b, off, rfl, bl, c0⟩ := nm_get (hR.below hb) hx
      have HCx := HL.out x (List.mem_of_getElem? hx) wr hb
      have HY : Hid ((l.take (k + 1)).any pr = pr x) := by show _ = _; rw [List.take_add_one, hx, List.any_append, hno.out]; simp
      have HM : Hid (pr x = true → l.any pr = true) := fun h => List.any_eq_true.2 ⟨x, List.mem_of_getElem? hx, h⟩
      obtain ⟨t, ht⟩ : ∃ t, pr x = t := ⟨_, rfl⟩
      rw [ht] at HCx HY HM
      replace HCx := Lib.hid HCx
      clear hx ht
      cases t with
      | true =>
        have HM2 := Lib.hid (HM.out rfl)
        clear HM
        go_wp2_with (go_at_call 87; refine HCx.out.mono ?_; rintro e w' ⟨rfl, hb2⟩)
        go_ret
        exact ⟨⟨k, rfl, by rw [HM2.out]; exact decide_eq_true (by omega)⟩, hb.trans (hb2.mono hb.size)⟩
      | false =>
        go_wp2_with (go_at_call 87; refine HCx.out.mono ?_; rintro e w' ⟨rfl, hb2⟩)
        go_roundw
        case rel => exact ⟨k + 1, by omega, by go_num, HY, hb.trans (hb2.mono hb.size)⟩
        case measure => simp [intOf]; omega
    · obtain rfl : k = l.length := by omega
      go_wp2
      go_ret
      exact ⟨⟨-1, rfl, by have := hno.out; rw [List.take_length] at this; rw [this]; rfl⟩, hb⟩
set_option maxHeartbeats 8000000 in
theorem hasFNm_any (A : Option Addr) (c : Nat) (l : List ByteArray) (pr : ByteArray → Bool) (w : World) (hR : Reads w w.heap.size 1 A l.length (strsV l)) (hlm : l.length ≤ 9223372036854775807)
    (HL : ∀ x ∈ l, ∀ W, Below w.heap.size w W → Calls Try.prog 87 #[.string x] W fun e w' => e = .returned (.bool (pr x)) ∧ Below W.heap.size W w') :
    Calls Try.prog 86 #[.slice A l.length c, .func (.func 87) #[] #[]] w
      fun e w' => e = .returned (.bool (l.any pr)) ∧ Below w.heap.size w w' := by
  have HI := Lib.hid (idxFNm_any A c l pr w hR hlm HL)
  clear HL
  go_enter Try.func86, Try.ntmps86
  go_wp2_with fail
  refine HI.out.mono ?_
  rintro e w1 ⟨⟨n, rfl, hn⟩, hb⟩
  replace hn := Lib.hid hn
  go_wp2
  go_ret
  exact ⟨by rw [← hn.out]; rfl, hb⟩
def ChooseIs (w : World) (r : List Prt × Int) (e : Ending) (w' : World) : Prop :=
  ∃ (z : Value) (qs : List PtM), e = .returned (.tuple #[z, .int .i64 r.2]) ∧ (r.2 ≠ 0 → z = .slice none 0 0) ∧ (r.2 = 0 → EV w w' w.heap.size z qs ∧ qs.map PtM.er = r.1) ∧ Below w.heap.size w w'
theorem chooseP_bad {l : List Itm} {first : List ByteArray} {n : Int} (h : chooseE l first = n) (hn : n ≠ 0) : chooseP l first = ([], n) := by unfold chooseP; rw [h, if_pos hn]
theorem chooseP_ok {l : List Itm} {first : List ByteArray} (h : chooseE l first = 0) : chooseP l first = (chosenP l first, 0) := by unfold chooseP; rw [h, if_neg (by simp)]
theorem choose_err {w w' : World} {r : List Prt × Int} {n : Int} (hr : r = ([], n)) (hn : n ≠ 0) (hb : Below w.heap.size w w') : ChooseIs w r (.returned (.tuple #[.slice none 0 0, .int .i64 n])) w' :=
  ⟨_, [], by rw [hr], fun _ => rfl, fun h0 => absurd (by rw [hr] at h0; exact h0) hn, hb⟩
theorem falses_rep (n : Nat) : falses (List.replicate n false) = n := by
  unfold falses
  rw [List.countP_replicate]
  simp
def sliceLen : Value → Nat
  | .slice _ n _ => n
  | _ => 0
def isT : Value → Nat
  | .bool true => 1
  | _ => 0

/-- While parts are chosen: so many, in a row of the call's own; what is wanted, what is there. -/
structure CH (w wr : World) (gS gW gD : Nat) (first : List ByteArray) (z : Value) (qs : List PtM) : Prop where
  ev : EV w wr w.heap.size z qs
  st : StIs wr gS gW gD (12 + 480 * qs.length) (60 * qs.length) first (qs.map PtM.er)
section
variable {w wr w' : World} {gS gW gD : Nat} {first : List ByteArray} {z : Value} {qs : List PtM}
theorem CH.all (h : CH w wr gS gW gD first z qs) (hs : Below wr.heap.size wr w') : CH w w' gS gW gD first z qs := ⟨h.ev.all hs, h.st.all hs⟩
/-- A box of a call's own written. -/
theorem CH.set_ (h : CH w wr gS gW gD first z qs) {g : Nat} {cs : Array Value} (hb : Blk wr g 4 cs) (hg : w.heap.size ≤ g) (j : Nat) (u : Value) : CH w (wr.setCell ⟨g, j, none⟩ u) gS gW gD first z qs :=
  ⟨⟨own_setCell h.ev.hz (own_blk_ne h.ev.hz hb (by decide)) u, fun q hq => (h.ev.each q hq).blk hb (by decide) (by decide) (by decide) (by decide) u, h.ev.hB.setCell hg u, by have := h.ev.hb; simpa [World.setCell] using this⟩, h.st.set_ hb (by decide) j u⟩
/-- What is wanted, and there, one part on; the row still without it. -/
structure CH2 (w wr : World) (gS gW gD : Nat) (first : List ByteArray) (z : Value) (qs : List PtM) (p : Prt) : Prop where
  ev : EV w wr w.heap.size z qs
  st : StIs wr gS gW gD (12 + 480 * (qs.length + 1)) (60 * (qs.length + 1)) first (qs.map PtM.er ++ [p])
theorem CH2.all {p : Prt} (h : CH2 w wr gS gW gD first z qs p) (hs : Below wr.heap.size wr w') : CH2 w w' gS gW gD first z qs p := ⟨h.ev.all hs, h.st.all hs⟩
theorem CH2.set_ {p : Prt} (h : CH2 w wr gS gW gD first z qs p) {g : Nat} {cs : Array Value} (hb : Blk wr g 4 cs) (hg : w.heap.size ≤ g) (j : Nat) (u : Value) : CH2 w (wr.setCell ⟨g, j, none⟩ u) gS gW gD first z qs p :=
  ⟨⟨own_setCell h.ev.hz (own_blk_ne h.ev.hz hb (by decide)) u, fun q hq => (h.ev.each q hq).blk hb (by decide) (by decide) (by decide) (by decide) u, h.ev.hB.setCell hg u, by have := h.ev.hb; simpa [World.setCell] using this⟩, h.st.set_ hb (by decide) j u⟩
theorem CH.take {p : Prt} (h : CH w wr gS gW gD first z qs) (hW : w.heap.size ≤ gW) (hD : w.heap.size ≤ gD) (ht : TwoBy wr w' gW gD) (hs : StIs w' gS gW gD (12 + 480 * qs.length + 480) (60 * qs.length + 60) first (qs.map PtM.er ++ [p])) : CH2 w w' gS gW gD first z qs p :=
  ⟨h.st.two_ev ht h.ev hW hD, by
    have e1 : 12 + 480 * (qs.length + 1) = 12 + 480 * qs.length + 480 := by omega
    have e2 : 60 * (qs.length + 1) = 60 * qs.length + 60 := by omega
    rw [e1, e2]
    exact hs⟩
theorem CH2.push {p : Prt} (h : CH2 w wr gS gW gD first z qs p) {q : PtM} (hq : q.Own wr w.heap.size) (he : q.er = p) {w5 : World} {v' : Value} (ho : w5.ownsRow w.heap.size 44 2 v' (qs.length + 1) (ptsV qs ++ q.cells)) (hg : wr.grownBy w5 z.ownBlock) : CH w w5 gS gW gD first v' (qs ++ [q]) :=
  ⟨h.ev.push hq ho hg, by
    have := h.st.row h.ev.hz hg (by decide)
    rw [List.map_append, List.length_append]
    rw [← he] at this
    exact this⟩
end

set_option maxRecDepth 100000 in
set_option maxHeartbeats 40000000 in
theorem choose_any (A Af : Option Addr) (c cf : Nat) (l : List ItM) (first : List ByteArray) (w : World) (h : ItsAt w w.heap.size A l) (hlm : l.length ≤ 9223372036854775807) (hf : Reads w w.heap.size 1 Af first.length (strsV first)) (hfm : first.length ≤ 9223372036854775807) :
    Calls Try.prog 28 #[.slice A l.length c, .slice Af first.length cf] w (ChooseIs w (chooseP (l.map ItM.er) first)) := by
  have hrow := h.row
  have HIT : Hid (∀ x ∈ l, x.Good w w.heap.size) := h.each
  have HK := Lib.hid (arcCheck_any A c l w h hlm)
  have hmm := @run_makeMap Try.prog
  clear h
  by_cases hc : ckItems (l.map ItM.er) = 0
  · obtain ⟨h12, hit⟩ := ckItems_zero hc
    rw [List.length_map] at h12
    rw [hc] at HK
    go_enter Try.func28, Try.ntmps28
    go_wp2_with fail
    refine HK.out.mono ?_
    rintro e w1 ⟨rfl, hb1⟩
    by_cases hf12 : 12 < first.length
    · have HE := Lib.hid (chooseP_bad (l := l.map ItM.er) (first := first) (n := 2) (by unfold chooseE; rw [if_neg (by simp [hc]), if_pos hf12]) (by decide))
      have q1 : decide ((12 : Int) < (first.length : Int)) = true := decide_eq_true (by omega)
      have q2 : decide (12 < first.length) = true := decide_eq_true hf12
      clear hf12 hc hit
      go_wp2
      go_ret2
      exact choose_err HE.out (by decide) hb1
    · have q1 : decide ((12 : Int) < (first.length : Int)) = false := decide_eq_false (by omega)
      have q2 : decide (12 < first.length) = false := decide_eq_false hf12
      have HFN := Lib.hid (hasFNm_any Af cf first (fun s => !nameB s) w1 ((hf.below hb1).more hb1.size) hfm (fun x _ W _ => choose1_any x W))
      obtain ⟨t, ht⟩ : ∃ t, (first.any fun s => !nameB s) = t := ⟨_, rfl⟩
      rw [ht] at HFN
      have HC := Lib.hid hc
      have HF12 := Lib.hid hf12
      have HT := Lib.hid ht
      clear hc hf12 ht
      cases t with
      | true =>
        have HE := Lib.hid (chooseP_bad (l := l.map ItM.er) (first := first) (n := 1) (by unfold chooseE; rw [if_neg (by simp [HC.out]), if_neg HF12.out, if_pos HT.out]) (by decide))
        clear hit
        go_wp2_with (go_at_call 86; refine HFN.out.mono ?_; rintro e w2 ⟨rfl, hb2⟩)
        go_ret2
        exact choose_err HE.out (by decide) (hb1.trans (hb2.mono hb1.size))
      | false =>
        have HE := Lib.hid (chooseP_ok (l := l.map ItM.er) (first := first) (by unfold chooseE; rw [if_neg (by simp [HC.out]), if_neg HF12.out, if_neg (by rw [HT.out]; simp)]))
        have HNS : Hid (∀ s ∈ first, s.size ≤ 8) := fun s hs => by
          have := List.any_eq_false.1 HT.out s hs
          exact nameB_short (by simpa using this)
        have HII := Lib.hid hit
        clear hit
        go_wp2_with (go_at_call 86; refine HFN.out.mono ?_; rintro e w2 ⟨rfl, hb2⟩)
        have hb02 := hb1.trans (hb2.mono hb1.size)
        have hbz : w.heap.size ≤ w2.heap.size := hb02.size
        go_upto_region 9 with (fail)
        have hz1 : (w2.alloc (.map #[] 0)).heap.size = w2.heap.size + 1 := by simp
        have hz2 : ((w2.alloc (.map #[] 0)).alloc (.map #[] 0)).heap.size = w2.heap.size + 1 + 1 := by simp
        have hset0 : SetIs (((w2.alloc (.map #[] 0)).alloc (.map #[] 0)).alloc (.cells #[.map (some w2.heap.size), .map (some (w2.heap.size + 1))] 161)) w2.heap.size 0 [] := ((SetIs.new w2).alloc _).alloc _
        have hset1 : SetIs (((w2.alloc (.map #[] 0)).alloc (.map #[] 0)).alloc (.cells #[.map (some w2.heap.size), .map (some (w2.heap.size + 1))] 161)) (w2.heap.size + 1) 0 [] := by
          have := (SetIs.new (w2.alloc (.map #[] 0))).alloc (.cells #[.map (some w2.heap.size), .map (some (w2.heap.size + 1))] 161)
          rw [hz1] at this
          exact this
        have kS := Blk.new ((w2.alloc (.map #[] 0)).alloc (.map #[] 0)) 161 #[.map (some w2.heap.size), .map (some (w2.heap.size + 1))]
        rw [hz2] at kS
        have hb3 : Below w.heap.size w (((w2.alloc (.map #[] 0)).alloc (.map #[] 0)).alloc (.cells #[.map (some w2.heap.size), .map (some (w2.heap.size + 1))] 161)) := ((hb02.alloc hb02.size _).alloc (by rw [hz1]; omega) _).alloc (by rw [hz2]; omega) _
        obtain ⟨W3, hW3⟩ : ∃ W, W = ((w2.alloc (.map #[] 0)).alloc (.map #[] 0)).alloc (.cells #[.map (some w2.heap.size), .map (some (w2.heap.size + 1))] 161) := ⟨_, rfl⟩
        obtain ⟨gS, hgS⟩ : ∃ g, g = w2.heap.size + 1 + 1 := ⟨_, rfl⟩
        obtain ⟨gD, hgD⟩ : ∃ g, g = w2.heap.size + 1 := ⟨_, rfl⟩
        obtain ⟨gW, hgW⟩ : ∃ g, g = w2.heap.size := ⟨_, rfl⟩
        have hWg : w.heap.size ≤ gW := by omega
        have hDg : w.heap.size ≤ gD := by omega
        have hne : gW ≠ gD := by omega
        rw [← hgS] at kS ⊢
        rw [← hgD] at kS hset0 hset1 hb3 hW3 ⊢
        rw [← hgW] at kS hset0 hset1 hb3 hW3 ⊢
        rw [← hW3] at kS hset0 hset1 hb3 ⊢
        clear hz1 hz2 hW3 hgS hgD hgW hbz hb02 hb2 HFN hmm
        go_wp2_with fail
        go_loopw [33] (fun i wr => ∃ k : Nat, k ≤ first.length ∧ i = .int .i64 k ∧ SetIs wr gW k (first.take k) ∧ W3.grownBy wr (some gW)) (fun i _ => first.length - (intOf i).toNat)
        case atStart => exact ⟨0, Nat.zero_le _, rfl, by simpa using hset0, World.grownBy.refl _ _⟩
        case round =>
          obtain ⟨k, hk, rfl, hset, hg⟩ := hrel
          have hBr : Below w.heap.size w wr := hb3.grown hg hb3.size (fun g hg' => by injection hg' with hg'; omega)
          by_cases hlt : k < first.length
          · obtain ⟨s, hs⟩ : ∃ s, first[k]? = some s := ⟨_, List.getElem?_eq_getElem hlt⟩
            obtain ⟨b, off, rfl, bl, c0⟩ := nm_get (hf.below hBr) hs
            have s0 := (hset0.blk kS hg).cell 0
            have hs8 := HNS.out s (List.mem_of_getElem? hs)
            have hk12 : k < 100 := by have := HF12.out; omega
            have HX : Hid (∀ x, x ∈ s :: first.take k ↔ x ∈ first.take (k + 1)) := fun x => by
              rw [List.take_add_one, hs]
              simp only [List.mem_cons, List.mem_append, Option.toList_some, List.not_mem_nil, or_false]
              exact Or.comm
            clear hs
            go_wp2_with (at_mapUpdate; refine wpList_setPut _ rfl _ _ _ rfl gW k _ hset rfl (by omega) s rfl rfl (by omega) ?_; intro w4 hs2 hg2)
            go_roundw
            case rel => exact ⟨k + 1, by omega, by go_num, hs2.ext HX.out, hg.trans hg2⟩
            case measure => simp [intOf]; omega
          · obtain rfl : k = first.length := by omega
            have hf12 := HF12.out
            have hS : StIs wr gS gW gD (12 + 480 * ([] : List PtM).length) (60 * ([] : List PtM).length) first (([] : List PtM).map PtM.er) :=
              ⟨hset0.blk kS hg, hne, ((hset.mono (by simp; omega)).ext fun x => by rw [List.take_length]; simp [wantS]), (hset1.kept hg (fun e => hne (by injection e with e; exact e.symm))).mono (by simp)⟩
            have hCH : CH w wr gS gW gD first (.slice none 0 0) [] := ⟨⟨World.ownsRow_nil _ _ _ _, fun q hq => absurd hq (by simp), hBr, hBr.size⟩, hS⟩
            clear hset hS hg hBr kS hset0 hset1 hb3 hne HNS hf hfm HT HF12 hf12
            go_wp2_with fail
            go_loopw [10, 45] (fun z i wr => ∃ (k : Nat) (qs : List PtM), k ≤ l.length ∧ i = .int .i64 k ∧ qs.length ≤ 8 * k ∧ Hid (qs.map PtM.er = chosenP ((l.map ItM.er).take k) first) ∧ CH w wr gS gW gD first z qs) (fun _ i _ => l.length - (intOf i).toNat)
            case atStart => exact ⟨0, [], Nat.zero_le _, rfl, Nat.le_refl _, Lib.hid rfl, hCH⟩
            case round =>
              clear hCH
              obtain ⟨k, qs, hk, rfl, hq8, hch, hCH⟩ := hrel
              obtain ⟨Az, cz, rfl, hz1, hz2⟩ := own_form hCH.ev.hz
              by_cases hlt : k < l.length
              · obtain ⟨x, hx⟩ : ∃ x, l[k]? = some x := ⟨_, List.getElem?_eq_getElem hlt⟩
                have hxe : (l.map ItM.er)[k]? = some x.er := by rw [List.getElem?_map, hx]; rfl
                have hxm := List.mem_of_getElem? hx
                obtain ⟨b, off, rfl, bl, c0, c1⟩ := it_get (hrow.below hCH.ev.hB) hx
                obtain ⟨hp8, hp1, hpok⟩ := ckItem_zero (HII.out x.er (List.mem_map_of_mem hxm))
                have hp8' : x.ps.length ≤ 8 := by simpa [ItM.er] using hp8
                have HP1 : Hid (x.arch = false → x.ps.length = 1) := fun ha => by simpa [ItM.er] using hp1 ha
                have HPO : Hid (∀ p ∈ x.ps, ckPart p.er = 0) := fun p hp => hpok p.er (by simp only [ItM.er]; exact List.mem_map_of_mem hp)
                have HG := Lib.hid (HIT.out x hxm)
                have HXE := Lib.hid hxe
                clear hx hxm hxe hp8 hp1 hpok
                go_upto_region 18 with (fail)
                have kX := Blk.new wr 70 #[.bool x.arch, .slice x.pa x.ps.length x.pc]
                have hbx : Below wr.heap.size wr (wr.alloc (.cells #[.bool x.arch, .slice x.pa x.ps.length x.pc] 70)) := by (repeat' (first | exact Below.refl _ _ | assumption | refine Below.setCell ?_ (by first | omega | exact Below.size (by assumption) | (simp; done) | (simp; omega)) _ | refine Below.alloc ?_ (by first | omega | exact Below.size (by assumption) | (simp; done) | (simp; omega)) _ | refine Below.drew ?_ | refine below_drewN ?_ _))
                have hbw := hCH.ev.hb
                replace hCH := hCH.all hbx
                obtain ⟨gX, hgX⟩ : ∃ g, g = wr.heap.size := ⟨_, rfl⟩
                obtain ⟨W, hW⟩ : ∃ W, W = wr.alloc (.cells #[.bool x.arch, .slice x.pa x.ps.length x.pc] 70) := ⟨_, rfl⟩
                rw [← hgX] at kX ⊢
                rw [← hW] at kX hCH ⊢
                have hgXw : w.heap.size ≤ gX := by rw [hgX]; exact hbw
                clear hW hgX hbx c0 c1 bl hbw
                have hxg := HG.out.keep hCH.ev.hB (Nat.le_refl _)
                have x0 := kX.cell 0
                have x1 := kX.cell 1
                by_cases har : x.arch = false
                · have h1 := HP1.out har
                  obtain ⟨p, hp⟩ : ∃ p, x.ps[0]? = some p := ⟨_, List.getElem?_eq_getElem (by omega)⟩
                  have hpm := List.mem_of_getElem? hp
                  obtain ⟨b1, o1, hxa, bl1, d0, d1⟩ := pt_get hxg.ps.row hp
                  simp only [Nat.zero_mul, Nat.add_zero] at d0 d1
                  have hpA := HG.out.ps.each p hpm
                  have hok := HPO.out p hpm
                  have HIS : Hid (itemStep first (qs.map PtM.er) x.er = qs.map PtM.er ++ [p.er]) := by
                    show _ = _
                    unfold itemStep
                    rw [show x.er.arch = false from har, if_neg (by simp)]
                    have e : x.er.ps = [p.er] := by
                      obtain ⟨p', hp'⟩ := List.length_eq_one_iff.1 h1
                      rw [hp'] at hp
                      simp at hp
                      simp [ItM.er, hp', hp]
                    rw [e]; rfl
                  have HXA := Lib.hid hxa
                  rw [har] at x0
                  rw [h1, hxa] at x1
                  replace hp := Lib.hid hp
                  clear hxa har hpm
                  go_wp2_with fail
                  refine (take_any p w.heap.size gS gW gD _ _ first (qs.map PtM.er) W (hpA.keep hCH.ev.hB (Nat.le_refl _)) hCH.ev.hb hWg hDg hok hCH.st (by omega) (by omega)).mono ?_
                  rintro e w4 ⟨rfl, hst4, htw⟩
                  have hC2 := hCH.take hWg hDg htw hst4
                  have kX4 := hCH.st.two_blk htw kX
                  clear hst4 htw hCH d0 d1 x0 x1 hxg
                  have hxg := HG.out.keep hC2.ev.hB (Nat.le_refl _)
                  obtain ⟨b1, o1, hxa, bl1, d0, d1⟩ := pt_get hxg.ps.row hp.out
                  simp only [Nat.zero_mul, Nat.add_zero] at d0 d1
                  have x1 := kX4.cell 1
                  rw [h1, hxa] at x1
                  have hpA4 := (hpA.keep hC2.ev.hB hC2.ev.hb)
                  have hsm := small_of hok
                  clear hxa
                  go_wp2_with fail
                  refine (copy_any p w4 hpA4 hsm).mono ?_
                  rintro e w5 ⟨⟨nf, nd, na, nc, nda, ndc⟩, rfl, own3, er3, hb3⟩
                  dsimp only
                  have own3' := own3.mono hC2.ev.hb
                  replace hC2 := hC2.all hb3
                  replace er3 := Lib.hid er3
                  have hqm : qs.length ≤ 96 := by omega
                  obtain ⟨i0, hi, hiz, his, hib⟩ := info_parts Try.infoParts
                  clear hb3 kX4 d0 d1 x1 hpA4 hpA hxg
                  (go_wp2_with (at_builtin; refine wpList_append_own _ rfl (.tmp 58) (.tmp 64) 22 rfl w.heap.size 44 i0 _ 2 48 Try.underlying22 hi hiz his hib rfl (by decide) _ _ _ rfl (hC2.ev.hz.alloc _) ⟨w5.heap.size, 0, none⟩ 1 1 [.slice na nf.length nc, .slice nda nd.length ndc] rfl rfl ?c1 ?c2 ?c3 ?c4 ?c5 ?_; (case c1 => exact fun j u hu => cells_new j u hu); (case c2 => exact pt_one ⟨nf, nd, na, nc, nda, ndc⟩); (case c3 => unfold maxLen; omega); (case c4 => omega); (case c5 => have := hC2.ev.hb; simp; omega); intro v' w6 hown6 hg6 _; have hst : Below w5.heap.size w5 (w5.alloc (.cells #[.slice na nf.length nc, .slice nda nd.length ndc] 44)) := (by (repeat' (first | exact Below.refl _ _ | assumption | refine Below.setCell ?_ (by first | omega | exact Below.size (by assumption) | (simp; done) | (simp; omega)) _ | refine Below.alloc ?_ (by first | omega | exact Below.size (by assumption) | (simp; done) | (simp; omega)) _ | refine Below.drew ?_ | refine below_drewN ?_ _))); have kGrow := hg6; have hC6 := (hC2.all hst).push (q := ⟨nf, nd, na, nc, nda, ndc⟩) (own3'.alloc _) er3.out hown6 hg6; clear hst hg6 hown6))
                  go_roundw
                  case rel => exact ⟨k + 1, qs ++ [⟨nf, nd, na, nc, nda, ndc⟩], by omega, by go_num, by rw [List.length_append]; simp only [List.length_singleton]; omega, Lib.hid (by rw [List.map_append, chosen_take HXE.out, ← hch.out, HIS.out, ← er3.out]; rfl), hC6⟩
                  case measure => simp [intOf]; omega
                · have har' : x.arch = true := by simpa using har
                  rw [har'] at x0
                  have HIS : Hid (itemStep first (qs.map PtM.er) x.er = archP first x.er.ps (qs.map PtM.er)) := by
                    show _ = _
                    unfold itemStep
                    rw [show x.er.arch = true from har', if_pos rfl]
                  have hmk := make_boolA x.ps.length (by omega)
                  have hel : x.er.ps.length = x.ps.length := by simp [ItM.er]
                  have HEL := Lib.hid hel
                  clear har har' hel
                  go_upto_region 22 with (fail)
                  have kT := Blk.new W 4 (boolsV (List.replicate x.ps.length false)).toArray
                  have hbx : Below W.heap.size W (W.alloc (.cells (boolsV (List.replicate x.ps.length false)).toArray 4)) := by (repeat' (first | exact Below.refl _ _ | assumption | refine Below.setCell ?_ (by first | omega | exact Below.size (by assumption) | (simp; done) | (simp; omega)) _ | refine Below.alloc ?_ (by first | omega | exact Below.size (by assumption) | (simp; done) | (simp; omega)) _ | refine Below.drew ?_ | refine below_drewN ?_ _))
                  have hgT0 : w.heap.size ≤ W.heap.size := hCH.ev.hb
                  replace hCH := hCH.all hbx
                  replace kX := kX.all hbx
                  obtain ⟨gT, hgT⟩ : ∃ g, g = W.heap.size := ⟨_, rfl⟩
                  obtain ⟨W4, hW4⟩ : ∃ W', W' = W.alloc (.cells (boolsV (List.replicate x.ps.length false)).toArray 4) := ⟨_, rfl⟩
                  have hgTw : w.heap.size ≤ gT := by rw [hgT]; exact hgT0
                  rw [← hgT] at kT ⊢
                  rw [← hW4] at kT kX hCH ⊢
                  clear hW4 hgT hbx hgT0 x0 x1 hxg hmk
                  have HAR : Hid (archP first x.er.ps (qs.map PtM.er) = if true = true then archN first x.er.ps (x.ps.length + 1) (List.replicate x.ps.length false) (qs.map PtM.er) else qs.map PtM.er) := by
                    show _ = _
                    unfold archP
                    rw [HEL.out, if_pos rfl]
                  go_wp2_with fail
                  go_loopw [10, 14] (fun z a wx => ∃ (ag : Bool) (n : Nat) (t : List Bool) (qs' : List PtM), a = .bool ag ∧ Hid (t.length = x.ps.length) ∧ Blk wx gT 4 (boolsV t).toArray ∧ Blk wx gX 70 #[.bool x.arch, .slice x.pa x.ps.length x.pc] ∧
                    Hid (archP first x.er.ps (qs.map PtM.er) = if ag = true then archN first x.er.ps n t (qs'.map PtM.er) else qs'.map PtM.er) ∧ falses t < n ∧ qs'.length + falses t = qs.length + x.ps.length ∧ CH w wx gS gW gD first z qs') (fun z a _ => 2 * (qs.length + x.ps.length - sliceLen z) + isT a)
                  case atStart => exact ⟨true, x.ps.length + 1, List.replicate x.ps.length false, qs, rfl, Lib.hid (by simp), kT, kX, HAR, by rw [falses_rep]; omega, by rw [falses_rep], hCH⟩
                  case round =>
                    clear hCH kT kX HAR
                    obtain ⟨ag, n, t, qs', rfl, htl, kT, kX, har, hfn, hcnt, hCH⟩ := hrel
                    obtain ⟨Ay, cy, rfl, hy1, hy2⟩ := own_form hCH.ev.hz
                    have x1 := kX.cell 1
                    cases ag with
                    | false =>
                      have HR : Hid (archP first x.er.ps (qs.map PtM.er) = qs'.map PtM.er) := by show _ = _; rw [har.out, if_neg (by simp)]
                      go_wp2_with fail
                      go_roundw
                      case rel => exact ⟨k + 1, qs', by omega, by go_num, by omega, Lib.hid (by rw [chosen_take HXE.out, ← hch.out, HIS.out, HR.out]), hCH⟩
                      case measure => simp [intOf]; omega
                    | true =>
                      go_wp2_with fail
                      go_loopw [10, 14, 74] (fun z a j wy => ∃ (m : Nat) (ag' : Bool) (t' : List Bool) (qs'' : List PtM), m ≤ x.ps.length ∧ j = .int .i64 m ∧ a = .bool ag' ∧ Hid (passTo first x.er.ps t (qs'.map PtM.er) m = (t', qs''.map PtM.er, ag')) ∧ Blk wy gT 4 (boolsV t').toArray ∧ Blk wy gX 70 #[.bool x.arch, .slice x.pa x.ps.length x.pc] ∧ CH w wy gS gW gD first z qs'') (fun _ _ j _ => x.ps.length - (intOf j).toNat)
                      case atStart => exact ⟨0, false, t, qs', Nat.zero_le _, rfl, rfl, Lib.hid rfl, kT, kX, hCH⟩
                      case round =>
                        clear hCH kT kX x1
                        obtain ⟨m, ag', t', qs'', hm, rfl, rfl, hps, kT, kX, hCH⟩ := hrel
                        obtain ⟨Au, cu, rfl, hu1, hu2⟩ := own_form hCH.ev.hz
                        have hcn := passTo_count first x.er.ps t (qs'.map PtM.er) (by rw [htl.out, HEL.out]) m (by rw [HEL.out]; exact hm)
                        rw [hps.out, HEL.out] at hcn
                        simp only [List.length_map] at hcn
                        obtain ⟨hc1, hc2, hc3, hc4⟩ := hcn
                        have hqb : qs''.length ≤ 104 := by omega
                        by_cases hml : m < x.ps.length
                        · obtain ⟨p, hp⟩ : ∃ p, x.ps[m]? = some p := ⟨_, List.getElem?_eq_getElem hml⟩
                          have hpm := List.mem_of_getElem? hp
                          have hpe : x.er.ps[m]? = some p.er := by simp [ItM.er, hp]
                          have hxg := HG.out.keep hCH.ev.hB (Nat.le_refl _)
                          obtain ⟨b1, o1, hxa, bl1, d0, d1⟩ := pt_get hxg.ps.row hp
                          have hpA := HG.out.ps.each p hpm
                          have hok := HPO.out p hpm
                          have hsm := Lib.hid (small_of hok)
                          obtain ⟨tb, htb⟩ : ∃ b, t'[m]? = some b := ⟨_, List.getElem?_eq_getElem (by omega)⟩
                          have HTB := Lib.hid htb
                          have HPE := Lib.hid hpe
                          have HC3 := Lib.hid hc3
                          rw [hxa]
                          have HXA := Lib.hid hxa
                          clear hp hpm hpe hxa hxg htb hc3
                          go_upto_region 28 with (fail)
                          have kP := Blk.new wr 44 #[.slice p.fa p.frs.length p.fc, .slice p.da p.dfs.length p.dc]
                          have hbx : Below wr.heap.size wr (wr.alloc (.cells #[.slice (p).fa (p).frs.length (p).fc, .slice (p).da (p).dfs.length (p).dc] 44)) := by (repeat' (first | exact Below.refl _ _ | assumption | refine Below.setCell ?_ (by first | omega | exact Below.size (by assumption) | (simp; done) | (simp; omega)) _ | refine Below.alloc ?_ (by first | omega | exact Below.size (by assumption) | (simp; done) | (simp; omega)) _ | refine Below.drew ?_ | refine below_drewN ?_ _))
                          replace hCH := hCH.all hbx
                          replace kX := kX.all hbx
                          replace kT := kT.all hbx
                          obtain ⟨gP, hgP⟩ : ∃ g, g = wr.heap.size := ⟨_, rfl⟩
                          obtain ⟨W5, hW5⟩ : ∃ W', W' = wr.alloc (.cells #[.slice (p).fa (p).frs.length (p).fc, .slice (p).da (p).dfs.length (p).dc] 44) := ⟨_, rfl⟩
                          rw [← hgP] at kP ⊢
                          rw [← hW5] at kP kX kT hCH ⊢
                          clear hW5 hgP hbx d0 d1
                          have t0 := (kT.cell m).trans (boolsV_get HTB.out)
                          have p0 := kP.cell 0
                          have p1 := kP.cell 1
                          have hpA5 := hpA.keep hCH.ev.hB hCH.ev.hb
                          cases tb with
                          | true =>
                            have HS := Lib.hid ((passTo_succ first x.er.ps t (qs'.map PtM.er) m).trans ((congrArg (fun st => passStep first x.er.ps st m) hps.out).trans (passStep_leave HPE.out (.inl HTB.out))))
                            clear hpA5 p0 p1 hpA
                            go_wp2_with fail
                            go_roundw
                            case rel => exact ⟨m + 1, ag', t', qs'', by omega, by go_num, rfl, HS, kT, by rw [HXA.out] at kX; exact kX, hCH⟩
                            case measure => simp [intOf]; omega
                          | false =>
                            have HH := Lib.hid (helps_any p gS gW gD _ _ first (qs''.map PtM.er) W5 hpA5 hok hCH.st)
                            obtain ⟨hb, hhb⟩ : ∃ b, helpsB first (qs''.map PtM.er) p.er = b := ⟨_, rfl⟩
                            rw [hhb] at HH
                            have HHB := Lib.hid hhb
                            clear hhb hpA5
                            cases hb with
                            | false =>
                              have HS := Lib.hid ((passTo_succ first x.er.ps t (qs'.map PtM.er) m).trans ((congrArg (fun st => passStep first x.er.ps st m) hps.out).trans (passStep_leave HPE.out (.inr HHB.out))))
                              clear hpA
                              go_wp2_with (go_at_call 90; refine HH.out.mono ?_; rintro e w6 ⟨rfl, hb6⟩)
                              go_roundw
                              case rel => exact ⟨m + 1, ag', t', qs'', by omega, by go_num, rfl, HS, kT.all hb6, by have kX := kX.all hb6; rw [HXA.out] at kX; exact kX, hCH.all hb6⟩
                              case measure => simp [intOf]; omega
                            | true =>
                              have HS := Lib.hid ((passTo_succ first x.er.ps t (qs'.map PtM.er) m).trans ((congrArg (fun st => passStep first x.er.ps st m) hps.out).trans (passStep_take HPE.out HTB.out HHB.out)))
                              go_upto_region 29 with (go_at_call 90; refine HH.out.mono ?_; rintro e w6 ⟨rfl, hb6⟩)
                              replace hCH := hCH.all hb6
                              replace kX := kX.all hb6
                              replace kT := kT.all hb6
                              replace kP := kP.all hb6
                              clear hb6 p0 p1 t0 HH
                              have p0 := kP.cell 0
                              have p1 := kP.cell 1
                              go_wp2_with fail
                              refine (take_any p w.heap.size gS gW gD _ _ first (qs''.map PtM.er) w6 (hpA.keep hCH.ev.hB (Nat.le_refl _)) hCH.ev.hb hWg hDg hok hCH.st (by omega) (by omega)).mono ?_
                              rintro e w4 ⟨rfl, hst4, htw⟩
                              have hC2 := hCH.take hWg hDg htw hst4
                              replace kX := hCH.st.two_blk htw kX
                              replace kT := hCH.st.two_blk htw kT
                              replace kP := hCH.st.two_blk htw kP
                              clear hst4 htw hCH p0 p1
                              have t0 := (kT.cell m).trans (boolsV_get HTB.out)
                              have tf := kT.frozen m
                              go_upto_region 31 with (fail)
                              replace hC2 := hC2.set_ kT hgTw m (.bool true)
                              replace kX := kX.far (kX.ne_ kT (by decide)) (p := ⟨gT, m, none⟩) (.bool true)
                              replace kP := kP.far (kP.ne_ kT (by decide)) (p := ⟨gT, m, none⟩) (.bool true)
                              replace kT := kT.set_ m (.bool true)
                              obtain ⟨W7, hW7⟩ : ∃ W', W' = w4.setCell ⟨gT, m, none⟩ (.bool true) := ⟨_, rfl⟩
                              rw [← hW7] at kX kP kT hC2 ⊢
                              clear hW7 t0 tf
                              have p0 := kP.cell 0
                              have p1 := kP.cell 1
                              have hpA7 := hpA.keep hC2.ev.hB hC2.ev.hb
                              go_wp2_with fail
                              refine (copy_any p W7 hpA7 hsm.out).mono ?_
                              rintro e w5 ⟨⟨nf, nd, na, nc, nda, ndc⟩, rfl, own3, er3, hb3⟩
                              dsimp only
                              have own3' := own3.mono hC2.ev.hb
                              replace hC2 := hC2.all hb3
                              replace er3 := Lib.hid er3
                              replace kX := kX.all hb3
                              replace kT := kT.all hb3
                              obtain ⟨i0, hi, hiz, his, hib⟩ := info_parts Try.infoParts
                              clear hb3 hpA7 hpA p0 p1 kP
                              (go_wp2_with (at_builtin; refine wpList_append_own _ rfl (.tmp 95) (.tmp 98) 22 rfl w.heap.size 44 i0 _ 2 48 Try.underlying22 hi hiz his hib rfl (by decide) _ _ _ rfl (hC2.ev.hz.alloc _) ⟨w5.heap.size, 0, none⟩ 1 1 [.slice na nf.length nc, .slice nda nd.length ndc] rfl rfl ?c1 ?c2 ?c3 ?c4 ?c5 ?_; (case c1 => exact fun j u hu => cells_new j u hu); (case c2 => exact pt_one ⟨nf, nd, na, nc, nda, ndc⟩); (case c3 => unfold maxLen; omega); (case c4 => omega); (case c5 => have := hC2.ev.hb; simp; omega); intro v' w6 hown6 hg6 _; have hst : Below w5.heap.size w5 (w5.alloc (.cells #[.slice na nf.length nc, .slice nda nd.length ndc] 44)) := (by (repeat' (first | exact Below.refl _ _ | assumption | refine Below.setCell ?_ (by first | omega | exact Below.size (by assumption) | (simp; done) | (simp; omega)) _ | refine Below.alloc ?_ (by first | omega | exact Below.size (by assumption) | (simp; done) | (simp; omega)) _ | refine Below.drew ?_ | refine below_drewN ?_ _))); have kGrow := hg6; have hC6 := (hC2.all hst).push (q := ⟨nf, nd, na, nc, nda, ndc⟩) (own3'.alloc _) er3.out hown6 hg6; clear hst hg6 hown6))
                              have kX6 := (kX.alloc (.cells #[.slice na nf.length nc, .slice nda nd.length ndc] 44)).grown kGrow (Ne.symm (own_blk_ne hC2.ev.hz kX (by decide)))
                              have kT6 := (kT.alloc (.cells #[.slice na nf.length nc, .slice nda nd.length ndc] 44)).grown kGrow (Ne.symm (own_blk_ne hC2.ev.hz kT (by decide)))
                              have HBV : Hid ((boolsV t').toArray.setIfInBounds m (.bool true) = (boolsV (t'.set m true)).toArray) := by
                                show _ = _
                                rw [List.setIfInBounds_toArray]
                                unfold boolsV
                                rw [List.map_set]
                              rw [HBV.out] at kT6
                              go_roundw
                              case rel => exact ⟨m + 1, true, t'.set m true, qs'' ++ [⟨nf, nd, na, nc, nda, ndc⟩], by omega, by go_num, rfl, Lib.hid (by rw [HS.out, List.map_append, ← er3.out]; rfl), kT6, by rw [HXA.out] at kX6; exact kX6, hC6⟩
                              case measure => simp [intOf]; omega
                        · obtain rfl : m = x.ps.length := by omega
                          obtain ⟨n1, rfl⟩ : ∃ n1, n = n1 + 1 := ⟨n - 1, by omega⟩
                          have HU : Hid (archP first x.er.ps (qs.map PtM.er) = if ag' = true then archN first x.er.ps n1 t' (qs''.map PtM.er) else qs''.map PtM.er) := by
                            show _ = _
                            rw [har.out, if_pos (by trivial), archN, HEL.out, hps.out]
                          obtain ⟨n2, hn2, HU2⟩ : ∃ n2, falses t' < n2 ∧ Hid (archP first x.er.ps (qs.map PtM.er) = if ag' = true then archN first x.er.ps n2 t' (qs''.map PtM.er) else qs''.map PtM.er) := by
                            rcases ag' with _ | _
                            · exact ⟨falses t' + 1, by omega, HU⟩
                            · have := hc3.1 rfl
                              exact ⟨n1, by omega, HU⟩
                          have hms : 2 * (qs.length + x.ps.length - qs''.length) + isT (.bool ag') < 2 * (qs.length + x.ps.length - qs'.length) + 1 := by
                            rcases ag' with _ | _
                            · simp only [isT]; omega
                            · have := hc3.1 rfl
                              simp only [isT]; omega
                          have HMS := Lib.hid hms
                          clear hms hc3
                          go_wp2_with fail
                          go_roundw
                          case rel => exact ⟨ag', n2, t', qs'', rfl, Lib.hid (by omega), kT, kX, HU2, hn2, by omega, hCH⟩
                          case measure => simp only [sliceLen, isT]; have := HMS.out; simp only [isT] at this; omega
              · obtain rfl : k = l.length := by omega
                have HR : Hid (chooseP (l.map ItM.er) first = (qs.map PtM.er, 0)) := by
                  show _ = _
                  rw [HE.out, hch.out, List.take_of_length_le (by simp)]
                go_wp2
                go_ret2
                exact ⟨_, qs, by rw [HR.out]; rfl, fun h0 => absurd (by rw [HR.out]) h0, fun _ => ⟨hCH.ev, by rw [HR.out]⟩, hCH.ev.hB⟩
  · obtain ⟨n, hn⟩ : ∃ n, ckItems (l.map ItM.er) = n := ⟨_, rfl⟩
    have HE := Lib.hid (chooseP_bad (l := l.map ItM.er) (first := first) (n := n) (by unfold chooseE; rw [if_pos hc]; exact hn) (by rw [← hn]; exact hc))
    rw [hn] at HK hc
    have t1 : (n != 0) = true := by simpa using hc
    have HN := Lib.hid hc
    clear hn hc
    go_enter Try.func28, Try.ntmps28
    go_wp2_with fail
    refine HK.out.mono ?_
    rintro e w1 ⟨rfl, hb1⟩
    go_wp2
    go_ret2
    exact choose_err HE.out HN.out hb1
end Go.Proofs.Ytbhjdinjoonngaa

/- ropewalklaw.taken: the closed fact of the archives: it holds. -/
namespace Go.Proofs.Ytbhjdinjoonngaa
open Go.RowKit

/-- A part of one fragment and one definition, its rows known whole. -/
theorem own_one {w : World} {base gf gd : Nat} {x : FgM} {d : Df} (hf : Blk w gf 100 x.cells.toArray) (hd : Blk w gd 78 d.cells.toArray) (hx : x.Own w base) (h1 : base ≤ gf) (h2 : base ≤ gd) : PtM.Own w base ⟨[x], [d], some ⟨gf, 0, none⟩, 1, some ⟨gd, 0, none⟩, 1⟩ := by
  have f := own_of_blk hf (base := base) (size := 6) (n := 1) h1 rfl (by omega)
  have g := own_of_blk hd (base := base) (size := 6) (n := 1) h2 rfl (by omega)
  refine ⟨?_, ?_, fun y hy => ?_, List.pairwise_singleton _ _⟩
  · exact f
  · exact g
  · obtain rfl := List.mem_singleton.1 hy
    exact hx
theorem pts_of_blk {w : World} {g : Nat} {l : List PtM} (h : Blk w g 44 (ptsV l).toArray) (he : ∀ p ∈ l, p.At w w.heap.size) : PtsAt w w.heap.size (some ⟨g, 0, none⟩) l :=
  ⟨by
    have := h.reads (size := 2) (n := l.length) (by
      rw [List.size_toArray]
      unfold ptsV
      exact flatMap_len (cells := PtM.cells) (k := 2) (fun _ => rfl) l)
    simpa using this, he⟩

def tkxC : FgM := ⟨⟨2, 1, ⟨#[]⟩, [], 0, []⟩, none, 0, none, 0⟩
def tkdC : Df := ⟨⟨#[122]⟩, 1, 0, 0, 0, 0⟩
def tkpC (gf gd : Nat) : PtM := ⟨[tkxC], [tkdC], some ⟨gf, 0, none⟩, 1, some ⟨gd, 0, none⟩, 1⟩
def tkxW (gb : Nat) : FgM := ⟨⟨4, 2, ⟨#[]⟩, [5], 0, []⟩, some ⟨gb, 0, none⟩, 1, none, 0⟩
def tkdW : Df := ⟨⟨#[119]⟩, 2, 0, 0, 0, 0⟩
def tkpW (gb gf gd : Nat) : PtM := ⟨[tkxW gb], [tkdW], some ⟨gf, 0, none⟩, 1, some ⟨gd, 0, none⟩, 1⟩
theorem own_cur {w : World} {base size n g cap : Nat} {t : TypeId} {xs : List Value} (h : w.ownsRow base t size (.slice (some ⟨g, 0, none⟩) n cap) n xs) : ∃ cur, Blk w g t cur := by
  rcases h.2 with ⟨h', _⟩ | ⟨g', cap', cur, h', hb, hg, _⟩
  · simp at h'
  · simp only [Value.slice.injEq, Option.some.injEq, Addr.mk.injEq, and_true, true_and] at h'
    obtain ⟨rfl, rfl⟩ := h'
    exact ⟨cur, hg⟩
theorem one_copy {q : PtM} (h : q.er = twoB) : ∃ y d, q.frs = [y] ∧ q.dfs = [d] ∧ y.f = ⟨1, 4, ⟨#[103]⟩, [7], 0, []⟩ ∧ d = ⟨⟨#[102]⟩, 1, 0, 0, 0, 0⟩ := by
  have h1 : q.frs.map FgM.f = twoB.frs := congrArg Prt.frs h
  have h2 : q.dfs = twoB.dfs := congrArg Prt.dfs h
  rcases hq : q.frs with _ | ⟨y, _ | ⟨y2, r⟩⟩
  · rw [hq] at h1; simp [twoB] at h1
  · rw [hq] at h1
    simp [twoB] at h1
    exact ⟨y, _, rfl, h2, h1, rfl⟩
  · rw [hq] at h1; simp [twoB] at h1
/-- A place put into the fragment of a copy. -/
theorem own_put {w : World} {base gq gr c : Nat} {y : FgM} {d : Df} {da : Option Addr} {dc : Nat} (h : PtM.Own w base ⟨[y], [d], some ⟨gq, 0, none⟩, c, da, dc⟩) (r : Rel) (hr : Blk w gr 119 r.cells.toArray) (hb : base ≤ gr) :
    PtM.Own (w.setCell ⟨gq, 5, none⟩ (.slice (some ⟨gr, 0, none⟩) 1 1)) base ⟨[⟨{ y.f with rs := [r] }, y.ba, y.bc, some ⟨gr, 0, none⟩, 1⟩], [d], some ⟨gq, 0, none⟩, c, da, dc⟩ := by
  have h1 := (h.fr.stored 5 (.slice (some ⟨gr, 0, none⟩) 1 1)).1
  have hy := h.each y (by simp)
  refine ⟨h1, own_setCell h.df (own_ne_own h.fr h.df (by decide) (g := gq) rfl) _, fun z hz => ?_, List.pairwise_singleton _ _⟩
  obtain rfl := List.mem_singleton.1 hz
  have hrow := own_of_blk hr (base := base) (size := 5) (n := 1) hb rfl (by omega)
  exact ⟨own_setCell hy.by_ (own_ne_own h.fr hy.by_ (by decide) (g := gq) rfl) _, own_setCell hrow (own_ne_own h.fr hrow (by decide) (g := gq) rfl) _⟩

set_option maxRecDepth 100000 in
set_option maxHeartbeats 20000000 in
theorem taken_any (w : World) : Calls Try.prog 29 #[] w fun e w' => e = .returned (.bool true) ∧ Below w.heap.size w w' := by
  go_enter Try.func29, Try.ntmps29
  go_wp2_with fail
  refine (two_any w).mono ?_
  rintro e w1 ⟨p1, p2, rfl, oa, ob, ea, eb, hb1⟩
  go_upto_region 2 with (fail)
  have hs := (Below.refl w1.heap.size w1).alloc (Nat.le_refl _) (.cells #[.slice (p1).fa (p1).frs.length (p1).fc, .slice (p1).da (p1).dfs.length (p1).dc] 44)
  have hs := hs.alloc (by simp) (.cells #[.slice (p2).fa (p2).frs.length (p2).fc, .slice (p2).da (p2).dfs.length (p2).dc] 44)
  have k1 := (Blk.new w1 44 #[.slice p1.fa p1.frs.length p1.fc, .slice p1.da p1.dfs.length p1.dc]).alloc (.cells #[.slice (p2).fa (p2).frs.length (p2).fc, .slice (p2).da (p2).dfs.length (p2).dc] 44)
  have k2 := Blk.new' (w1.alloc (.cells #[.slice (p1).fa (p1).frs.length (p1).fc, .slice (p1).da (p1).dfs.length (p1).dc] 44)) 44 #[.slice p2.fa p2.frs.length p2.fc, .slice p2.da p2.dfs.length p2.dc] (g := w1.heap.size + 1) (by simp)
  replace oa := oa.all hs
  replace ob := ob.all hs
  have hB := hb1.trans (hs.mono hb1.size)
  obtain ⟨W, hW⟩ : ∃ W', W' = (w1.alloc (.cells #[.slice (p1).fa (p1).frs.length (p1).fc, .slice (p1).da (p1).dfs.length (p1).dc] 44)).alloc (.cells #[.slice (p2).fa (p2).frs.length (p2).fc, .slice (p2).da (p2).dfs.length (p2).dc] 44) := ⟨_, rfl⟩
  obtain ⟨g2, hg2⟩ : ∃ g, g = w1.heap.size + 1 := ⟨_, rfl⟩
  obtain ⟨g1, hg1⟩ : ∃ g, g = w1.heap.size := ⟨_, rfl⟩
  rw [← hg2] at k2 ⊢
  rw [← hg1] at k1 ⊢
  rw [← hW] at k1 k2 oa ob hB ⊢
  clear hW hg1 hg2 hs hb1
  go_upto_region 3 with (fail)
  obtain ⟨gd, hgd⟩ : ∃ g, g = W.heap.size + 1 := ⟨_, rfl⟩
  obtain ⟨g3, hg3⟩ : ∃ g, g = W.heap.size + 1 + 1 := ⟨_, rfl⟩
  obtain ⟨gf, hgf⟩ : ∃ g, g = W.heap.size := ⟨_, rfl⟩
  rw [← hg3, ← hgd, ← hgf]
  have hs := (((Below.refl W.heap.size W).alloc (Nat.le_refl _) (.cells tkxC.cells.toArray 100)).alloc (by simp <;> omega) (.cells tkdC.cells.toArray 78)).alloc (by simp <;> omega) (.cells #[.slice (some ⟨gf, 0, none⟩) 1 1, .slice (some ⟨gd, 0, none⟩) 1 1] 44)
  have kf := ((Blk.new' W 100 tkxC.cells.toArray hgf).alloc (.cells tkdC.cells.toArray 78)).alloc (.cells #[.slice (some ⟨gf, 0, none⟩) 1 1, .slice (some ⟨gd, 0, none⟩) 1 1] 44)
  have kd := (Blk.new' (W.alloc (.cells tkxC.cells.toArray 100)) 78 tkdC.cells.toArray (g := gd) (by simp; exact hgd)).alloc (.cells #[.slice (some ⟨gf, 0, none⟩) 1 1, .slice (some ⟨gd, 0, none⟩) 1 1] 44)
  have k3 := Blk.new' ((W.alloc (.cells tkxC.cells.toArray 100)).alloc (.cells tkdC.cells.toArray 78)) 44 #[.slice (some ⟨gf, 0, none⟩) 1 1, .slice (some ⟨gd, 0, none⟩) 1 1] (g := g3) (by simp; exact hg3)
  have hBW := hB.size
  have oc := own_one (x := tkxC) (d := tkdC) (base := W.heap.size) kf kd ⟨World.ownsRow_nil _ _ _ _, World.ownsRow_nil _ _ _ _⟩ (by omega) (by omega)
  replace oa := oa.all hs
  replace ob := ob.all hs
  replace k1 := k1.all hs
  replace k2 := k2.all hs
  replace hB := hB.trans (hs.mono hB.size)
  clear kf kd
  obtain ⟨W3, hW3⟩ : ∃ W', W' = ((W.alloc (.cells tkxC.cells.toArray 100)).alloc (.cells tkdC.cells.toArray 78)).alloc (.cells #[.slice (some ⟨gf, 0, none⟩) 1 1, .slice (some ⟨gd, 0, none⟩) 1 1] 44) := ⟨_, rfl⟩
  rw [show ((W.alloc (.cells #[.int .i64 2, .int .i64 1, .string ⟨#[]⟩, .slice none 0 0, .int .i64 0, .slice none 0 0] 100)).alloc (.cells #[.string ⟨#[122]⟩, .int .i64 1, .int .i64 0, .int .i64 0, .int .i64 0, .int .i64 0] 78)).alloc (.cells #[.slice (some ⟨gf, 0, none⟩) 1 1, .slice (some ⟨gd, 0, none⟩) 1 1] 44) = W3 from hW3.symm]
  rw [← hW3] at k1 k2 k3 oa ob oc hB
  clear hW3 hs hgd hgf hg3
  have x0 := k2.cell 0
  have x1 := k2.cell 1
  have hfit : PtM.Fit p2 := by
    obtain ⟨y, d, h1, h2, h3, h4⟩ := one_copy eb
    exact ⟨by rw [h1]; simp, by rw [h2]; simp, fun x hx => by rw [h1] at hx; obtain rfl := List.mem_singleton.1 hx; rw [h3]; simp, fun x hx => by rw [h1] at hx; obtain rfl := List.mem_singleton.1 hx; rw [h3]; simp⟩
  go_wp2_with fail
  refine (refOwn_any p2 W3 ob.at_ hfit).mono ?_
  rintro e w4 ⟨q, rfl, oq, eq, hb4⟩
  rw [eb] at eq
  obtain ⟨y, d, hq1, hq2, hq3, hq4⟩ := one_copy eq
  obtain ⟨qf, qd, qa, qc, qda, qdc⟩ := q
  dsimp only at hq1 hq2
  subst hq1 hq2
  obtain ⟨gq, cq, hqv, hqb, _⟩ := oq.fr.form (by simp)
  injection hqv with hqv _ hcap
  simp only at hqv hcap
  subst hqv hcap
  dsimp only
  have oa3 := oa
  have oc3 := oc
  have hB3 := hB
  replace k1 := k1.all hb4
  replace k3 := k3.all hb4
  replace oa := oa.all hb4
  replace oc := oc.all hb4
  replace hB := hB.trans (hb4.mono hB.size)
  have hz3 := hb4.size
  clear x0 x1 ob k2 hfit eq
  obtain ⟨bq, oq', eqa, _, y0, y1, y2, y3, y4, y5⟩ := fg_get (Reads.of_own oq.fr) (i := 0) (x := y) rfl
  injection eqa with eqa
  injection eqa with e1 e2
  subst e1 e2
  obtain ⟨cur, kq⟩ := own_cur oq.fr
  have fq := kq.frozen 5
  go_upto_region 4 with (fail)
  obtain ⟨gr, hgr⟩ : ∃ g, g = w4.heap.size + 1 := ⟨_, rfl⟩
  obtain ⟨g4, hg4⟩ : ∃ g, g = w4.heap.size := ⟨_, rfl⟩
  go_upto_region 5 with (fail)
  rw [← hgr, ← hg4]
  have rC : Rel := ⟨0, 1, ⟨#[119]⟩, 0, 0⟩
  have hs := ((Below.refl w4.heap.size w4).alloc (Nat.le_refl _) (.cells #[.slice (some ⟨gq, 0, none⟩) 1 qc, .slice qda 1 qdc] 44)).alloc (by simp) (.cells #[.int .i64 0, .int .i64 1, .string ⟨#[119]⟩, .int .i64 0, .int .i64 0] 119)
  have k4 := (Blk.new' w4 44 #[.slice (some ⟨gq, 0, none⟩) 1 qc, .slice qda 1 qdc] hg4).alloc (.cells #[.int .i64 0, .int .i64 1, .string ⟨#[119]⟩, .int .i64 0, .int .i64 0] 119)
  have kr := Blk.new' (w4.alloc (.cells #[.slice (some ⟨gq, 0, none⟩) 1 qc, .slice qda 1 qdc] 44)) 119 #[.int .i64 0, .int .i64 1, .string ⟨#[119]⟩, .int .i64 0, .int .i64 0] (g := gr) (by simp; exact hgr)
  replace oq := oq.all hs
  replace kq := kq.all hs
  obtain ⟨W5, hW5⟩ : ∃ W', W' = (w4.alloc (.cells #[.slice (some ⟨gq, 0, none⟩) 1 qc, .slice qda 1 qdc] 44)).alloc (.cells #[.int .i64 0, .int .i64 1, .string ⟨#[119]⟩, .int .i64 0, .int .i64 0] 119) := ⟨_, rfl⟩
  rw [← hW5] at hs k4 kr oq kq
  have hz5 : W5.heap.size = w4.heap.size + 2 := by rw [hW5]; simp
  have oD := own_put (r := ⟨0, 1, ⟨#[119]⟩, 0, 0⟩) oq kr (by omega)
  have hs35 : Below W3.heap.size W3 (W5.setCell ⟨gq, 5, none⟩ (.slice (some ⟨gr, 0, none⟩) 1 1)) := (hb4.trans (hs.mono hz3)).setCell hqb _
  have k1' := (k1.all hs).far (k1.all hs |>.ne_ kq (by decide)) (p := ⟨gq, 5, none⟩) (.slice (some ⟨gr, 0, none⟩) 1 1)
  have k3' := (k3.all hs).far (k3.all hs |>.ne_ kq (by decide)) (p := ⟨gq, 5, none⟩) (.slice (some ⟨gr, 0, none⟩) 1 1)
  have k4' := k4.far (k4.ne_ kq (by decide)) (p := ⟨gq, 5, none⟩) (.slice (some ⟨gr, 0, none⟩) 1 1)
  have oa' := oa3.all hs35
  have oc' := oc3.all hs35
  have hB5 := hB3.trans (hs35.mono hB3.size)
  have hcomm : W5.setCell ⟨gq, 5, none⟩ (.slice (some ⟨gr, 0, none⟩) 1 1) = ((w4.setCell ⟨gq, 5, none⟩ (.slice (some ⟨gr, 0, none⟩) 1 1)).alloc (.cells #[.slice (some ⟨gq, 0, none⟩) 1 qc, .slice qda 1 qdc] 44)).alloc (.cells #[.int .i64 0, .int .i64 1, .string ⟨#[119]⟩, .int .i64 0, .int .i64 0] 119) := by
    rw [hW5, World.setCell_alloc_past _ _ _ _ (by simp; omega), World.setCell_alloc_past _ _ _ _ (by omega)]
  rw [← hcomm]
  obtain ⟨W6, hW6⟩ : ∃ W', W' = W5.setCell ⟨gq, 5, none⟩ (.slice (some ⟨gr, 0, none⟩) 1 1) := ⟨_, rfl⟩
  rw [← hW6] at oD k1' k3' k4' oa' oc' hB5 ⊢
  replace oD := oD.mono (base' := w.heap.size) (Nat.le_trans hB3.size (Nat.le_refl _))
  replace oc' := oc'.mono (base' := w.heap.size) hBW
  clear hcomm hW6 hs35 hs k4 kr oq kq k1 k3 oa oc hB hz5 hW5 oa3 oc3 hB3 hqb hz3 y0 y1 y2 y3 y4 y5 fq hgr hb4 hg4 rC hBW
  go_upto_region 6 with (fail)
  obtain ⟨g5, hg5⟩ : ∃ g, g = W6.heap.size + 1 + 1 + 1 := ⟨_, rfl⟩
  obtain ⟨gd2, hgd2⟩ : ∃ g, g = W6.heap.size + 1 + 1 := ⟨_, rfl⟩
  obtain ⟨gf2, hgf2⟩ : ∃ g, g = W6.heap.size + 1 := ⟨_, rfl⟩
  obtain ⟨gb, hgb⟩ : ∃ g, g = W6.heap.size := ⟨_, rfl⟩
  rw [← hg5, ← hgd2, ← hgf2, ← hgb]
  have hs := ((((Below.refl W6.heap.size W6).alloc (Nat.le_refl _) (.cells #[.int .u8 5] 5)).alloc (by simp <;> omega) (.cells (tkxW gb).cells.toArray 100)).alloc (by simp <;> omega) (.cells tkdW.cells.toArray 78)).alloc (by simp <;> omega) (.cells #[.slice (some ⟨gf2, 0, none⟩) 1 1, .slice (some ⟨gd2, 0, none⟩) 1 1] 44)
  have kb := (((Blk.new' W6 5 #[.int .u8 5] hgb).alloc (.cells (tkxW gb).cells.toArray 100)).alloc (.cells tkdW.cells.toArray 78)).alloc (.cells #[.slice (some ⟨gf2, 0, none⟩) 1 1, .slice (some ⟨gd2, 0, none⟩) 1 1] 44)
  have kf := ((Blk.new' (W6.alloc (.cells #[.int .u8 5] 5)) 100 (tkxW gb).cells.toArray (g := gf2) (by simp; exact hgf2)).alloc (.cells tkdW.cells.toArray 78)).alloc (.cells #[.slice (some ⟨gf2, 0, none⟩) 1 1, .slice (some ⟨gd2, 0, none⟩) 1 1] 44)
  have kd := (Blk.new' ((W6.alloc (.cells #[.int .u8 5] 5)).alloc (.cells (tkxW gb).cells.toArray 100)) 78 tkdW.cells.toArray (g := gd2) (by simp; exact hgd2)).alloc (.cells #[.slice (some ⟨gf2, 0, none⟩) 1 1, .slice (some ⟨gd2, 0, none⟩) 1 1] 44)
  have k5 := Blk.new' (((W6.alloc (.cells #[.int .u8 5] 5)).alloc (.cells (tkxW gb).cells.toArray 100)).alloc (.cells tkdW.cells.toArray 78)) 44 #[.slice (some ⟨gf2, 0, none⟩) 1 1, .slice (some ⟨gd2, 0, none⟩) 1 1] (g := g5) (by simp; exact hg5)
  have hb6 := hB5.size
  have oW := own_one (x := tkxW gb) (d := tkdW) (base := w.heap.size) kf kd ⟨own_of_blk kb (base := w.heap.size) (size := 1) (n := 1) (by omega) rfl (by omega), World.ownsRow_nil _ _ _ _⟩ (by omega) (by omega)
  replace oa' := oa'.all hs
  replace oc' := oc'.all hs
  replace oD := oD.all hs
  replace k1' := k1'.all hs
  replace k3' := k3'.all hs
  replace k4' := k4'.all hs
  replace hB5 := hB5.trans (hs.mono hb6)
  clear kb kf kd
  obtain ⟨W7, hW7⟩ : ∃ W', W' = (((W6.alloc (.cells #[.int .u8 5] 5)).alloc (.cells (tkxW gb).cells.toArray 100)).alloc (.cells tkdW.cells.toArray 78)).alloc (.cells #[.slice (some ⟨gf2, 0, none⟩) 1 1, .slice (some ⟨gd2, 0, none⟩) 1 1] 44) := ⟨_, rfl⟩
  rw [show (((W6.alloc (.cells #[.int .u8 5] 5)).alloc (.cells #[.int .i64 4, .int .i64 2, .string ⟨#[]⟩, .slice (some ⟨gb, 0, none⟩) 1 1, .int .i64 0, .slice none 0 0] 100)).alloc (.cells #[.string ⟨#[119]⟩, .int .i64 2, .int .i64 0, .int .i64 0, .int .i64 0, .int .i64 0] 78)).alloc (.cells #[.slice (some ⟨gf2, 0, none⟩) 1 1, .slice (some ⟨gd2, 0, none⟩) 1 1] 44) = W7 from hW7.symm]
  rw [← hW7] at k1' k3' k4' k5 oa' oc' oD oW hB5
  clear hW7 hs hg5 hgd2 hgf2 hgb hb6
  have x0 := k1'.cell 0
  have x1 := k1'.cell 1
  have x2 := k3'.cell 0
  have x3 := k3'.cell 1
  have x4 := k4'.cell 0
  have x5 := k4'.cell 1
  have x6 := k5.cell 0
  have x7 := k5.cell 1
  have z1 := k1'.lt
  have z3 := k3'.lt
  have z4 := k4'.lt
  have z5 := k5.lt
  go_wp2_with fail
  obtain ⟨gi, hgi⟩ : ∃ g, g = W7.heap.size + 1 + 1 := ⟨_, rfl⟩
  obtain ⟨gb3, hgb3⟩ : ∃ g, g = W7.heap.size + 1 := ⟨_, rfl⟩
  obtain ⟨ga, hga⟩ : ∃ g, g = W7.heap.size := ⟨_, rfl⟩
  rw [← hgi, ← hgb3, ← hga]
  have hs := (((Below.refl W7.heap.size W7).alloc (Nat.le_refl _) (.cells #[.slice p1.fa p1.frs.length p1.fc, .slice p1.da p1.dfs.length p1.dc] 44)).alloc (by simp <;> omega) (.cells #[.slice (some ⟨gf2, 0, none⟩) 1 1, .slice (some ⟨gd2, 0, none⟩) 1 1, .slice (some ⟨gf, 0, none⟩) 1 1, .slice (some ⟨gd, 0, none⟩) 1 1, .slice (some ⟨gq, 0, none⟩) 1 qc, .slice qda 1 qdc] 44)).alloc (by simp <;> omega) (.cells #[.bool false, .slice (some ⟨ga, 0, none⟩) 1 1, .bool true, .slice (some ⟨gb3, 0, none⟩) 3 3] 70)
  have ka := ((Blk.new' W7 44 #[.slice p1.fa p1.frs.length p1.fc, .slice p1.da p1.dfs.length p1.dc] hga).alloc (.cells #[.slice (some ⟨gf2, 0, none⟩) 1 1, .slice (some ⟨gd2, 0, none⟩) 1 1, .slice (some ⟨gf, 0, none⟩) 1 1, .slice (some ⟨gd, 0, none⟩) 1 1, .slice (some ⟨gq, 0, none⟩) 1 qc, .slice qda 1 qdc] 44)).alloc (.cells #[.bool false, .slice (some ⟨ga, 0, none⟩) 1 1, .bool true, .slice (some ⟨gb3, 0, none⟩) 3 3] 70)
  have kb3 := (Blk.new' (W7.alloc (.cells #[.slice p1.fa p1.frs.length p1.fc, .slice p1.da p1.dfs.length p1.dc] 44)) 44 #[.slice (some ⟨gf2, 0, none⟩) 1 1, .slice (some ⟨gd2, 0, none⟩) 1 1, .slice (some ⟨gf, 0, none⟩) 1 1, .slice (some ⟨gd, 0, none⟩) 1 1, .slice (some ⟨gq, 0, none⟩) 1 qc, .slice qda 1 qdc] (g := gb3) (by simp; exact hgb3)).alloc (.cells #[.bool false, .slice (some ⟨ga, 0, none⟩) 1 1, .bool true, .slice (some ⟨gb3, 0, none⟩) 3 3] 70)
  have ki := Blk.new' ((W7.alloc (.cells #[.slice p1.fa p1.frs.length p1.fc, .slice p1.da p1.dfs.length p1.dc] 44)).alloc (.cells #[.slice (some ⟨gf2, 0, none⟩) 1 1, .slice (some ⟨gd2, 0, none⟩) 1 1, .slice (some ⟨gf, 0, none⟩) 1 1, .slice (some ⟨gd, 0, none⟩) 1 1, .slice (some ⟨gq, 0, none⟩) 1 qc, .slice qda 1 qdc] 44)) 70 #[.bool false, .slice (some ⟨ga, 0, none⟩) 1 1, .bool true, .slice (some ⟨gb3, 0, none⟩) 3 3] (g := gi) (by simp; exact hgi)
  replace oa' := oa'.all hs
  replace oc' := oc'.all hs
  replace oD := oD.all hs
  replace oW := oW.all hs
  replace k1' := k1'.all hs
  replace k4' := k4'.all hs
  replace k5 := k5.all hs
  replace hB5 := hB5.trans (hs.mono hB5.size)
  obtain ⟨W8, hW8⟩ : ∃ W', W' = ((W7.alloc (.cells #[.slice p1.fa p1.frs.length p1.fc, .slice p1.da p1.dfs.length p1.dc] 44)).alloc (.cells #[.slice (some ⟨gf2, 0, none⟩) 1 1, .slice (some ⟨gd2, 0, none⟩) 1 1, .slice (some ⟨gf, 0, none⟩) 1 1, .slice (some ⟨gd, 0, none⟩) 1 1, .slice (some ⟨gq, 0, none⟩) 1 qc, .slice qda 1 qdc] 44)).alloc (.cells #[.bool false, .slice (some ⟨ga, 0, none⟩) 1 1, .bool true, .slice (some ⟨gb3, 0, none⟩) 3 3] 70) := ⟨_, rfl⟩
  rw [← hW8] at ka kb3 ki oa' oc' oD oW k1' k4' k5 hB5 ⊢
  clear hW8 hs hgi hgb3 hga x0 x1 x2 x3 x4 x5 x6 x7 z1 z3 z4 z5 k3'
  obtain ⟨pD, hpD⟩ : ∃ q : PtM, q = ⟨[⟨{ y.f with rs := [⟨0, 1, ⟨#[119]⟩, 0, 0⟩] }, y.ba, y.bc, some ⟨gr, 0, none⟩, 1⟩], [d], some ⟨gq, 0, none⟩, qc, qda, qdc⟩ := ⟨_, rfl⟩
  obtain ⟨pC, hpC⟩ : ∃ q : PtM, q = ⟨[tkxC], [tkdC], some ⟨gf, 0, none⟩, 1, some ⟨gd, 0, none⟩, 1⟩ := ⟨_, rfl⟩
  obtain ⟨pW, hpW⟩ : ∃ q : PtM, q = ⟨[tkxW gb], [tkdW], some ⟨gf2, 0, none⟩, 1, some ⟨gd2, 0, none⟩, 1⟩ := ⟨_, rfl⟩
  rw [← hpD] at oD
  rw [← hpC] at oc'
  rw [← hpW] at oW
  have eD : pD.er = takD := by rw [hpD]; simp only [PtM.er, List.map_cons, List.map_nil, hq3, hq4]; rfl
  have eC : pC.er = takC := by rw [hpC]; rfl
  have eW : pW.er = takW := by rw [hpW]; rfl
  have kb4 : Blk W8 gb3 44 (ptsV [pW, pC, pD]).toArray := by rw [hpD, hpC, hpW]; exact kb3
  have k4D : Blk W8 g4 44 #[.slice pD.fa pD.frs.length pD.fc, .slice pD.da pD.dfs.length pD.dc] := by rw [hpD]; exact k4'
  have k5W : Blk W8 g5 44 #[.slice pW.fa pW.frs.length pW.fc, .slice pW.da pW.dfs.length pW.dc] := by rw [hpW]; exact k5
  have hits : ItsAt W8 W8.heap.size (some ⟨gi, 0, none⟩) [⟨false, [p1], some ⟨ga, 0, none⟩, 1⟩, ⟨true, [pW, pC, pD], some ⟨gb3, 0, none⟩, 3⟩] := by
    refine ⟨ki.reads (size := 2) (n := 2) rfl, fun x hx => ?_⟩
    simp only [List.mem_cons, List.not_mem_nil, or_false] at hx
    rcases hx with rfl | rfl
    · exact ⟨pts_of_blk (l := [p1]) ka (fun p hp => by obtain rfl := List.mem_singleton.1 hp; exact oa'.at_), by simp⟩
    · refine ⟨pts_of_blk (l := [pW, pC, pD]) kb4 (fun p hp => ?_), by simp⟩
      simp only [List.mem_cons, List.not_mem_nil, or_false] at hp
      rcases hp with rfl | rfl | rfl
      · exact oW.at_
      · exact oc'.at_
      · exact oD.at_
  have HCH := Lib.hid (choose_any (some ⟨gi, 0, none⟩) none 2 0 [⟨false, [p1], some ⟨ga, 0, none⟩, 1⟩, ⟨true, [pW, pC, pD], some ⟨gb3, 0, none⟩, 3⟩] [] W8 hits (by simp) Reads.none_ (by simp))
  rw [show ([⟨false, [p1], some ⟨ga, 0, none⟩, 1⟩, ⟨true, [pW, pC, pD], some ⟨gb3, 0, none⟩, 3⟩] : List ItM).map ItM.er = [⟨false, [twoA]⟩, ⟨true, [takW, takC, takD]⟩] from by simp only [List.map_cons, List.map_nil, ItM.er, ea, eW, eC, eD], tak_all] at HCH
  replace oa' := oa'.at_
  replace oD := oD.at_
  replace oW := oW.at_
  clear hits ki ka kb3 kb4 k4' k5 hq3 hq4 hpD hpC hpW oc' eC
  refine HCH.out.mono ?_
  rintro e w9 ⟨z, qs, rfl, _, hq0, hb9⟩
  obtain ⟨hev, hqe⟩ := hq0 rfl
  rcases qs with _ | ⟨q1, _ | ⟨q2, _ | ⟨q3, _ | ⟨q4, r⟩⟩⟩⟩
  · simp at hqe
  · simp at hqe
  · simp at hqe
  · simp only [List.map_cons, List.map_nil, List.cons.injEq, and_true] at hqe
    obtain ⟨f1, f2, f3⟩ := hqe
    have h1 := (hev.each q1 (by simp)).at_
    have h2 := (hev.each q2 (by simp)).at_
    have h3 := (hev.each q3 (by simp)).at_
    obtain ⟨Az, cz, rfl, _, _⟩ := own_form hev.hz
    have R := Reads.of_own hev.hz
    obtain ⟨b0, o0, rfl, bl0, c0, c1⟩ := pt_get R (i := 0) (x := q1) rfl
    obtain ⟨b1, o1, he1, bl1, c2, c3⟩ := pt_get R (i := 1) (x := q2) rfl
    obtain ⟨b2, o2, he2, bl2, c4, c5⟩ := pt_get R (i := 2) (x := q3) rfl
    injection he1 with he1
    injection he1 with ea1 ea2
    subst ea1 ea2
    injection he2 with he2
    injection he2 with ea1 ea2
    subst ea1 ea2
    simp only [Nat.zero_mul, Nat.one_mul, Nat.add_zero, Nat.reduceMul] at c0 c1 c2 c3 c4 c5
    replace oa' := oa'.all hb9
    replace oD := oD.all hb9
    replace oW := oW.all hb9
    replace k1' := k1'.all hb9
    replace k4D := k4D.all hb9
    replace k5W := k5W.all hb9
    replace hB5 := hB5.trans (hb9.mono hB5.size)
    have x0 := k1'.cell 0
    have x1 := k1'.cell 1
    have x4 := k4D.cell 0
    have x5 := k4D.cell 1
    have x6 := k5W.cell 0
    have x7 := k5W.cell 1
    have s1 : Hid (decide (q1.er = p1.er) = true) := decide_eq_true (by rw [f1, ea])
    have s2 : Hid (decide (q2.er = pD.er) = true) := decide_eq_true (by rw [f2, eD])
    have s3 : Hid (decide (q3.er = pW.er) = true) := decide_eq_true (by rw [f3, eW])
    have HS1 : Hid (∀ W', Below w9.heap.size w9 W' → Calls Try.prog 18 #[.agg #[.slice q1.fa q1.frs.length q1.fc, .slice q1.da q1.dfs.length q1.dc], .agg #[.slice p1.fa p1.frs.length p1.fc, .slice p1.da p1.dfs.length p1.dc]] W' fun e w' => e = .returned (.bool true) ∧ Below W'.heap.size W' w') := fun W' hb => by
      have := same_any q1 p1 W' (h1.all hb) (oa'.all hb)
      rw [s1.out] at this
      exact this
    have HS2 : Hid (∀ W', Below w9.heap.size w9 W' → Calls Try.prog 18 #[.agg #[.slice q2.fa q2.frs.length q2.fc, .slice q2.da q2.dfs.length q2.dc], .agg #[.slice pD.fa pD.frs.length pD.fc, .slice pD.da pD.dfs.length pD.dc]] W' fun e w' => e = .returned (.bool true) ∧ Below W'.heap.size W' w') := fun W' hb => by
      have := same_any q2 pD W' (h2.all hb) (oD.all hb)
      rw [s2.out] at this
      exact this
    have HS3 : Hid (∀ W', Below w9.heap.size w9 W' → Calls Try.prog 18 #[.agg #[.slice q3.fa q3.frs.length q3.fc, .slice q3.da q3.dfs.length q3.dc], .agg #[.slice pW.fa pW.frs.length pW.fc, .slice pW.da pW.dfs.length pW.dc]] W' fun e w' => e = .returned (.bool true) ∧ Below W'.heap.size W' w') := fun W' hb => by
      have := same_any q3 pW W' (h3.all hb) (oW.all hb)
      rw [s3.out] at this
      exact this
    have HB := Lib.hid hB5
    have bl := bl0
    have z1 := k1'.lt
    have z4 := k4D.lt
    have z5 := k5W.lt
    clear ea eb f1 f2 f3 eD eW s1 s2 s3 h1 h2 h3 R hev HCH hq0 oa' oD oW k1' k4D k5W hb9
    go_upto_region 7 with (fail)
    go_region_held3 (fun w' => w'.cell? ⟨b0, o0, none⟩ = some (.slice q1.fa q1.frs.length q1.fc) ∧ w'.cell? ⟨b0, o0 + 1, none⟩ = some (.slice q1.da q1.dfs.length q1.dc) ∧ w'.cell? ⟨b0, o0 + 2, none⟩ = some (.slice q2.fa q2.frs.length q2.fc) ∧ w'.cell? ⟨b0, o0 + 2 + 1, none⟩ = some (.slice q2.da q2.dfs.length q2.dc) ∧ w'.cell? ⟨b0, o0 + 4, none⟩ = some (.slice q3.fa q3.frs.length q3.fc) ∧ w'.cell? ⟨b0, o0 + 4 + 1, none⟩ = some (.slice q3.da q3.dfs.length q3.dc) ∧ w'.cell? ⟨g1, 0, none⟩ = some (.slice p1.fa p1.frs.length p1.fc) ∧ w'.cell? ⟨g1, 1, none⟩ = some (.slice p1.da p1.dfs.length p1.dc) ∧ w'.cell? ⟨g4, 0, none⟩ = some (.slice pD.fa pD.frs.length pD.fc) ∧ w'.cell? ⟨g4, 1, none⟩ = some (.slice pD.da pD.dfs.length pD.dc) ∧ w'.cell? ⟨g5, 0, none⟩ = some (.slice pW.fa pW.frs.length pW.fc) ∧ w'.cell? ⟨g5, 1, none⟩ = some (.slice pW.da pW.dfs.length pW.dc)) (first | go_keep | exact ⟨((hb10).cell (p := ⟨b0, o0, none⟩) bl).trans c0, ((hb10).cell (p := ⟨b0, o0 + 1, none⟩) bl).trans c1, ((hb10).cell (p := ⟨b0, o0 + 2, none⟩) bl).trans c2, ((hb10).cell (p := ⟨b0, o0 + 2 + 1, none⟩) bl).trans c3, ((hb10).cell (p := ⟨b0, o0 + 4, none⟩) bl).trans c4, ((hb10).cell (p := ⟨b0, o0 + 4 + 1, none⟩) bl).trans c5, ((hb10).cell (p := ⟨g1, 0, none⟩) z1).trans x0, ((hb10).cell (p := ⟨g1, 1, none⟩) z1).trans x1, ((hb10).cell (p := ⟨g4, 0, none⟩) z4).trans x4, ((hb10).cell (p := ⟨g4, 1, none⟩) z4).trans x5, ((hb10).cell (p := ⟨g5, 0, none⟩) z5).trans x6, ((hb10).cell (p := ⟨g5, 1, none⟩) z5).trans x7⟩ | exact ⟨((hb11).cell (p := ⟨b0, o0, none⟩) bl).trans c0, ((hb11).cell (p := ⟨b0, o0 + 1, none⟩) bl).trans c1, ((hb11).cell (p := ⟨b0, o0 + 2, none⟩) bl).trans c2, ((hb11).cell (p := ⟨b0, o0 + 2 + 1, none⟩) bl).trans c3, ((hb11).cell (p := ⟨b0, o0 + 4, none⟩) bl).trans c4, ((hb11).cell (p := ⟨b0, o0 + 4 + 1, none⟩) bl).trans c5, ((hb11).cell (p := ⟨g1, 0, none⟩) z1).trans x0, ((hb11).cell (p := ⟨g1, 1, none⟩) z1).trans x1, ((hb11).cell (p := ⟨g4, 0, none⟩) z4).trans x4, ((hb11).cell (p := ⟨g4, 1, none⟩) z4).trans x5, ((hb11).cell (p := ⟨g5, 0, none⟩) z5).trans x6, ((hb11).cell (p := ⟨g5, 1, none⟩) z5).trans x7⟩ | exact ⟨((hb12).cell (p := ⟨b0, o0, none⟩) bl).trans c0, ((hb12).cell (p := ⟨b0, o0 + 1, none⟩) bl).trans c1, ((hb12).cell (p := ⟨b0, o0 + 2, none⟩) bl).trans c2, ((hb12).cell (p := ⟨b0, o0 + 2 + 1, none⟩) bl).trans c3, ((hb12).cell (p := ⟨b0, o0 + 4, none⟩) bl).trans c4, ((hb12).cell (p := ⟨b0, o0 + 4 + 1, none⟩) bl).trans c5, ((hb12).cell (p := ⟨g1, 0, none⟩) z1).trans x0, ((hb12).cell (p := ⟨g1, 1, none⟩) z1).trans x1, ((hb12).cell (p := ⟨g4, 0, none⟩) z4).trans x4, ((hb12).cell (p := ⟨g4, 1, none⟩) z4).trans x5, ((hb12).cell (p := ⟨g5, 0, none⟩) z5).trans x6, ((hb12).cell (p := ⟨g5, 1, none⟩) z5).trans x7⟩)
      (first
        | (go_at_call 18
           first
             | ((with_reducible refine (HS1.out _ ((Below.refl _ _).drew)).mono ?_)
                rintro e w10 ⟨rfl, hb⟩
                have hb10 : Below w9.heap.size w9 w10 := ((Below.refl _ _).drew).trans hb)
             | ((with_reducible refine (HS2.out _ hb10).mono ?_)
                rintro e w11 ⟨rfl, hb⟩
                have hb11 : Below w9.heap.size w9 w11 := hb10.trans (hb.mono hb10.size))
             | ((with_reducible refine (HS3.out _ hb11).mono ?_)
                rintro e w12 ⟨rfl, hb⟩
                have hb12 : Below w9.heap.size w9 w12 := hb11.trans (hb.mono hb11.size))))
    go_wp2
    go_ret
    exact ⟨rfl, HB.out.trans (hb12.mono HB.out.size)⟩
  · simp at hqe
end Go.Proofs.Ytbhjdinjoonngaa

/- archive.Choose: what an archive gives: each lacked ahead of it; in the end nobody lacks what is left; plain items. No program in sight. -/
namespace Go.Proofs.Ytbhjdinjoonngaa

theorem def_mem_have {p : Prt} {out : List Prt} (hp : p ∈ out) {d : Df} (hd : d ∈ p.dfs) : d.name ∈ haveS out := by
  unfold haveS
  refine List.mem_flatMap.2 ⟨p, hp, ?_⟩
  unfold definedP
  exact setS_mem.2 (List.mem_map.2 ⟨d, hd, rfl⟩)
/-- What was taken helps no more. -/
theorem helps_taken {first : List ByteArray} {p : Prt} {out : List Prt} (hp : p ∈ out) : helpsB first out p = false := by
  unfold helpsB
  rw [List.any_eq_false]
  intro d hd
  unfold helpD
  rw [decide_eq_true (def_mem_have hp hd)]
  simp
/-- Each part of r was lacked ahead of it. -/
def Lacked (first : List ByteArray) (ps o0 r : List Prt) : Prop := ∀ (i : Nat) (q : Prt), r[i]? = some q → q ∈ ps ∧ helpsB first (o0 ++ r.take i) q = true
structure ArcInv (first : List ByteArray) (ps o0 : List Prt) (t : List Bool) (o : List Prt) : Prop where
  len : t.length = ps.length
  tak : ∀ (i : Nat) (p : Prt), ps[i]? = some p → t[i]? = some true → p ∈ o
  row : ∃ r, o = o0 ++ r ∧ Lacked first ps o0 r
theorem ArcInv.take {first : List ByteArray} {ps o0 : List Prt} {t : List Bool} {o : List Prt} {i : Nat} {p : Prt} (h : ArcInv first ps o0 t o) (hp : ps[i]? = some p) (hh : helpsB first o p = true) : ArcInv first ps o0 (t.set i true) (o ++ [p]) := by
  obtain ⟨r, rfl, hr⟩ := h.row
  refine ⟨by rw [List.length_set]; exact h.len, fun j q hq hj => ?_, r ++ [p], by rw [List.append_assoc], fun j q hq => ?_⟩
  · by_cases hij : i = j
    · subst hij
      rw [hp] at hq
      injection hq with hq
      subst hq
      simp
    · rw [List.getElem?_set_ne hij] at hj
      exact List.mem_append.2 (.inl (h.tak j q hq hj))
  · rcases Nat.lt_or_ge j r.length with hj | hj
    · rw [List.getElem?_append_left hj] at hq
      rw [List.take_append_of_le_length (by omega)]
      exact hr j q hq
    · rw [List.getElem?_append_right hj] at hq
      have hj0 : j - r.length = 0 := by
        have := (List.getElem?_eq_some_iff.1 hq).1
        simp at this
        omega
      rw [hj0] at hq
      simp at hq
      subst hq
      obtain rfl : j = r.length := by omega
      rw [List.take_append_of_le_length (Nat.le_refl _), List.take_length]
      exact ⟨List.mem_of_getElem? hp, hh⟩
theorem passTo_inv {first : List ByteArray} {ps o0 : List Prt} {t : List Bool} {o : List Prt} (h : ArcInv first ps o0 t o) : ∀ k, k ≤ ps.length → ArcInv first ps o0 (passTo first ps t o k).1 (passTo first ps t o k).2.1
  | 0, _ => h
  | k + 1, hk => by
    have ih := passTo_inv h k (by omega)
    rw [passTo_succ]
    obtain ⟨p, hp⟩ : ∃ p, ps[k]? = some p := ⟨_, List.getElem?_eq_getElem (by omega)⟩
    by_cases hc : (passTo first ps t o k).1[k]? = some false ∧ helpsB first (passTo first ps t o k).2.1 p = true
    · rw [passStep_take hp hc.1 hc.2]
      exact ih.take hp hc.2
    · have e : passStep first ps (passTo first ps t o k) k = passTo first ps t o k := by
        unfold passStep; rw [hp]; exact if_neg hc
      rw [e]
      exact ih
/-- A pass that takes nothing: nothing helps. -/
theorem pass_none {first : List ByteArray} {ps : List Prt} {t : List Bool} {o : List Prt} (ht : t.length = ps.length) : ∀ k, k ≤ ps.length → (passTo first ps t o k).2.2 = false →
    passTo first ps t o k = (t, o, false) ∧ ∀ (i : Nat) (p : Prt), i < k → ps[i]? = some p → t[i]? = some false → helpsB first o p = false
  | 0, _, _ => ⟨rfl, fun i p hi => absurd hi (by omega)⟩
  | k + 1, hk, he => by
    rw [passTo_succ] at he ⊢
    obtain ⟨p, hp⟩ : ∃ p, ps[k]? = some p := ⟨_, List.getElem?_eq_getElem (by omega)⟩
    by_cases hc : (passTo first ps t o k).1[k]? = some false ∧ helpsB first (passTo first ps t o k).2.1 p = true
    · rw [passStep_take hp hc.1 hc.2] at he
      cases he
    · have e : passStep first ps (passTo first ps t o k) k = passTo first ps t o k := by
        unfold passStep; rw [hp]; exact if_neg hc
      rw [e] at he ⊢
      obtain ⟨h1, h2⟩ := pass_none ht k (by omega) he
      rw [h1] at hc
      refine ⟨h1, fun i q hi hq htf => ?_⟩
      rcases Nat.lt_or_ge i k with hik | hik
      · exact h2 i q hik hq htf
      · obtain rfl : i = k := by omega
        rw [hp] at hq
        injection hq with hq
        subst hq
        rcases hb : helpsB first o p with _ | _
        · rfl
        · exact absurd ⟨htf, hb⟩ hc
theorem archN_end {first : List ByteArray} {ps o0 : List Prt} : ∀ (n : Nat) (t : List Bool) (o : List Prt), ArcInv first ps o0 t o → falses t < n →
    (∃ r, archN first ps n t o = o0 ++ r ∧ Lacked first ps o0 r) ∧ ∀ p ∈ ps, helpsB first (archN first ps n t o) p = false
  | 0, t, o, _, hn => absurd hn (by omega)
  | n + 1, t, o, h, hn => by
    have hc := passTo_count first ps t o h.len ps.length (Nat.le_refl _)
    have hi := passTo_inv h ps.length (Nat.le_refl _)
    rw [archN]
    by_cases ha : (passTo first ps t o ps.length).2.2 = true
    · rw [if_pos ha]
      have := hc.2.2.1.1 ha
      exact archN_end n _ _ hi (by omega)
    · rw [if_neg ha]
      have ha' : (passTo first ps t o ps.length).2.2 = false := by simpa using ha
      obtain ⟨e, hnone⟩ := pass_none h.len ps.length (Nat.le_refl _) ha'
      rw [e]
      refine ⟨h.row, fun p hp => ?_⟩
      obtain ⟨i, hi', rfl⟩ := List.getElem_of_mem hp
      have hip : ps[i]? = some ps[i] := List.getElem?_eq_getElem hi'
      obtain ⟨b, hb⟩ : ∃ b, t[i]? = some b := ⟨_, List.getElem?_eq_getElem (by rw [h.len]; exact hi')⟩
      cases b with
      | true => exact helps_taken (h.tak i _ hip hb)
      | false => exact hnone i _ hi' hip hb
theorem arch_end (first : List ByteArray) (ps o0 : List Prt) : (∃ r, archP first ps o0 = o0 ++ r ∧ Lacked first ps o0 r) ∧ ∀ p ∈ ps, helpsB first (archP first ps o0) p = false := by
  unfold archP
  refine archN_end _ _ _ ⟨by simp, fun i p _ ht => ?_, [], by simp, fun i q hq => by simp at hq⟩ ?_
  · rw [List.getElem?_replicate] at ht
    split at ht
    · cases ht
    · cases ht
  · unfold falses
    rw [List.countP_replicate]
    simp
theorem archN_len {first : List ByteArray} {ps : List Prt} : ∀ (n : Nat) (t : List Bool) (o : List Prt), t.length = ps.length → (archN first ps n t o).length ≤ o.length + falses t
  | 0, t, o, _ => by rw [archN]; omega
  | n + 1, t, o, ht => by
    have hc := passTo_count first ps t o ht ps.length (Nat.le_refl _)
    rw [archN]
    split
    · have := archN_len (first := first) n (passTo first ps t o ps.length).1 (passTo first ps t o ps.length).2.1 hc.1
      omega
    · omega
theorem arch_len (first : List ByteArray) (ps o : List Prt) : (archP first ps o).length ≤ o.length + ps.length := by
  have := archN_len (first := first) (ps := ps) (ps.length + 1) (List.replicate ps.length false) o (by simp)
  have e : falses (List.replicate ps.length false) = ps.length := by unfold falses; rw [List.countP_replicate]; simp
  unfold archP
  omega
/-- Nobody lacks what an archive has: nothing is taken. -/
theorem arch_none {first : List ByteArray} {ps o0 : List Prt} (h : ∀ p ∈ ps, helpsB first o0 p = false) : archP first ps o0 = o0 := by
  obtain ⟨⟨r, hr, hl⟩, _⟩ := arch_end first ps o0
  rcases r with _ | ⟨q, r⟩
  · rw [hr, List.append_nil]
  · obtain ⟨h1, h2⟩ := hl 0 q rfl
    rw [List.take_zero, List.append_nil, h q h1] at h2
    cases h2
/-- What is no archive's is taken as it is. -/
theorem chosen_plain (first : List ByteArray) : ∀ (l : List Itm), (∀ x ∈ l, x.arch = false) → ∀ o, l.foldl (itemStep first) o = o ++ l.flatMap fun x => x.ps.take 1
  | [], _, o => by simp
  | x :: r, h, o => by
    rw [List.foldl_cons, chosen_plain first r (fun y hy => h y (by simp [hy])), List.flatMap_cons]
    unfold itemStep
    rw [h x (by simp), if_neg (by simp), List.append_assoc]
theorem chosen_snoc (l : List Itm) (x : Itm) (first : List ByteArray) : chosenP (l ++ [x]) first = itemStep first (chosenP l first) x := by
  unfold chosenP; rw [List.foldl_append]; rfl
end Go.Proofs.Ytbhjdinjoonngaa

/- ropewalklaw.ArchivePlain: rows of parts held against each other; a row of strings of a call's own; its closure; items gathered. -/
namespace Go.Proofs.Ytbhjdinjoonngaa
open Go.RowKit

theorem Try.infoStrsC : (Try.prog.info? 9).map (fun i => (i.zero, i.size, i.bytes)) = some (some (.string ⟨#[]⟩), 1, 16) := by kernel_rfl
set_option maxHeartbeats 1000000 in
theorem cloneStrsC_any (A : Option Addr) (n c : Nat) (cs : List Value) (w : World) (h : Reads w w.heap.size 1 A n cs) (h1 : ∀ u ∈ cs, u.oneCell' = true) (hn : n * 16 ≤ 140737488355328) (hm : n ≤ 9223372036854775807) :
    Calls Try.prog 38 #[.slice A n c] w fun e w' => ∃ v, e = .returned v ∧ w'.ownsRow w.heap.size 9 1 v n cs ∧ Below w.heap.size w w' := by
  obtain ⟨i0, hi, hz0, hz1, hz2⟩ := info_parts Try.infoStrsC
  have hq := fun W => run_eql_slice_nil_any (P := Try.prog) W 67 9 A n c 0 0 Try.underlying67
  rcases A with _ | ad
  · have hn0 : n = 0 := by
      rcases Nat.eq_zero_or_pos n with h0 | h0
      · exact h0
      · obtain ⟨b, off, e, _⟩ := h.2 h0
        cases e
    subst hn0
    have hcs : cs = [] := List.eq_nil_of_length_eq_zero (by simpa using h.1)
    subst hcs
    go_enter Try.func38, Try.ntmps38
    go_wp2
    go_ret
    exact ⟨_, rfl, World.ownsRow_nil _ _ _ _, Below.refl _ _⟩
  · have hown : (w.alloc (.cells #[] 9)).ownsRow w.heap.size 9 1 (.slice (some ⟨w.heap.size, 0, none⟩) 0 0) 0 [] := World.ownsRow_made _ _ _ (Nat.le_refl _) (Nat.zero_le _) rfl
    have hr := h.alloc (Nat.le_refl _) (.cells #[] 9)
    go_enter Try.func38, Try.ntmps38
    go_wp2_with (at_builtin; refine wpList_append_any _ rfl (.tmp 5) (.tmp 6) _ rfl w.heap.size 9 i0 (.string ⟨#[]⟩) 1 16 Try.underlying67 hi hz0 hz1 hz2 rfl (by omega) _ _ _ rfl hown w.heap.size (some ad) n c cs rfl hr h1 ?c2 ?c3 ?c4 ?_)
    case c2 => unfold maxLen; omega
    case c3 => omega
    case c4 => simp
    · intro v' w2 hown2 hg2 hat2
      have hb2 : Below w.heap.size w w2 := ((Below.refl _ _).alloc (Nat.le_refl _) _).grown hg2 (by simp) (fun g hg => (hown.lt g hg).1)
      clear hg2 hat2
      go_wp2
      go_ret
      exact ⟨_, rfl, hown2, hb2⟩


theorem pts_no {l l' : List PtM} {k : Nat} {x y : PtM} (hx : l[k]? = some x) (hy : l'[k]? = some y) (hd : decide (x.er = y.er) = false) : decide (l.map PtM.er = l'.map PtM.er) = false := by
  refine decide_eq_false fun h => of_decide_eq_false hd ?_
  have := congrArg (fun m : List Prt => m[k]?) h
  simp only [List.getElem?_map, hx, hy, Option.map_some, Option.some.injEq] at this
  exact this
set_option maxHeartbeats 8000000 in
set_option maxRecDepth 100000 in
theorem equalParts_any (A A' : Option Addr) (c c' : Nat) (l l' : List PtM) (w : World) (h : PtsAt w w.heap.size A l) (h' : PtsAt w w.heap.size A' l') (hm : l.length ≤ 9223372036854775807) (hm' : l'.length ≤ 9223372036854775807) :
    Calls Try.prog 17 #[.slice A l.length c, .slice A' l'.length c', .func (.func 18) #[] #[]] w
      fun e w' => e = .returned (.bool (decide (l.map PtM.er = l'.map PtM.er))) ∧ Below w.heap.size w w' := by
  have hr := h.row
  have hr' := h'.row
  have G1 := Lib.hid h.each
  have G2 := Lib.hid h'.each
  clear h h'
  by_cases hlen : l.length = l'.length
  · have hne : ((l.length : Int) != (l'.length : Int)) = false := by rw [hlen]; simp
    have HL := Lib.hid hlen
    have l0 : l.length ≤ l'.length := by omega
    clear hlen
    go_enter Try.func17, Try.ntmps17
    go_wp2
    go_loopw [17] (fun i wr => ∃ k : Nat, k ≤ l.length ∧ i = .int .i64 k ∧ Hid ((l.take k).map PtM.er = (l'.take k).map PtM.er) ∧ Below w.heap.size w wr) (fun i _ => l.length - (intOf i).toNat)
    case atStart => exact ⟨0, Nat.zero_le _, rfl, Lib.hid (by simp), Below.refl _ _⟩
    case round =>
      obtain ⟨k, hk, rfl, htk, hb⟩ := hrel
      by_cases hlt : k < l.length
      · have hlt' : k < l'.length := by omega
        obtain ⟨x, hx⟩ : ∃ x, l[k]? = some x := ⟨_, List.getElem?_eq_getElem hlt⟩
        obtain ⟨y, hy⟩ : ∃ y, l'[k]? = some y := ⟨_, List.getElem?_eq_getElem hlt'⟩
        have hX := (G1.out x (List.mem_of_getElem? hx)).keep hb hb.size
        have hY := (G2.out y (List.mem_of_getElem? hy)).keep hb hb.size
        obtain ⟨b, off, rfl, bl, c0, c1⟩ := pt_get (hr.below hb) hx
        obtain ⟨b', off', rfl, bl', d0, d1⟩ := pt_get ((hr'.below hb).alloc hb.size (.cells #[.slice (x).fa (x).frs.length (x).fc, .slice (x).da (x).dfs.length (x).dc] 44)) hy
        have bz := hb.size
        have z1 : b ≠ wr.heap.size := by omega
        have z2 : b' ≠ wr.heap.size := by omega
        have HX := Lib.hid hx
        have HY := Lib.hid hy
        have HT : Hid (x.er = y.er → (l.take (k + 1)).map PtM.er = (l'.take (k + 1)).map PtM.er) := fun e => by
          rw [List.take_add_one, List.take_add_one, hx, hy, List.map_append, List.map_append, htk.out]
          simp [e]
        clear hx hy
        go_wp2_with fail
        refine (same_any x y _ ?_ ?_).mono ?_
        · exact hX.keep (by (repeat' (first | exact Below.refl _ _ | assumption | refine Below.setCell ?_ (by first | omega | exact Below.size (by assumption) | (simp; done) | (simp; omega)) _ | refine Below.alloc ?_ (by first | omega | exact Below.size (by assumption) | (simp; done) | (simp; omega)) _ | refine Below.drew ?_ | refine below_drewN ?_ _))) (by simp; omega)
        · exact hY.keep (by (repeat' (first | exact Below.refl _ _ | assumption | refine Below.setCell ?_ (by first | omega | exact Below.size (by assumption) | (simp; done) | (simp; omega)) _ | refine Below.alloc ?_ (by first | omega | exact Below.size (by assumption) | (simp; done) | (simp; omega)) _ | refine Below.drew ?_ | refine below_drewN ?_ _))) (by simp; omega)
        rintro e w1 ⟨rfl, hb1⟩
        have hB : Below w.heap.size w w1 := Below.trans (by (repeat' (first | exact Below.refl _ _ | assumption | refine Below.setCell ?_ (by first | omega | exact Below.size (by assumption) | (simp; done) | (simp; omega)) _ | refine Below.alloc ?_ (by first | omega | exact Below.size (by assumption) | (simp; done) | (simp; omega)) _ | refine Below.drew ?_ | refine below_drewN ?_ _))) (hb1.mono (by have := hb.size; simp; omega))
        clear hb1 c0 c1 d0 d1
        rcases hd : decide (x.er = y.er) with _ | _
        · have HN := Lib.hid (pts_no HX.out HY.out hd)
          clear hd
          go_wp2
          go_ret
          exact ⟨ret_val (by rw [HN.out]; rfl), hB⟩
        · have hd' := HT.out (of_decide_eq_true hd)
          replace hd' := Lib.hid hd'
          clear hd
          go_wp2
          go_roundw
          case rel => exact ⟨k + 1, by omega, by go_num, hd', hB⟩
          case measure => simp [intOf]; omega
      · have hk' : k = l.length := by omega
        have HT : Hid (l.map PtM.er = l'.map PtM.er) := by
          have e1 := htk.out
          rw [hk', List.take_length, HL.out, List.take_length] at e1
          exact e1
        have HD := Lib.hid (decide_eq_true HT.out)
        clear hk'
        go_wp2
        go_ret
        exact ⟨ret_val (by rw [HD.out]; rfl), hb⟩
  · have hne : ((l.length : Int) != (l'.length : Int)) = true := by simp; omega
    have HN : Hid (decide (l.map PtM.er = l'.map PtM.er) = false) := decide_eq_false fun h => hlen (by have := congrArg List.length h; simpa using this)
    clear hlen
    go_enter Try.func17, Try.ntmps17
    go_wp2
    go_ret
    exact ⟨ret_val (by rw [HN.out]; rfl), Below.refl _ _⟩

/-! ### the closure: is a name among those? -/
set_option maxHeartbeats 8000000 in
set_option maxRecDepth 100000 in
theorem plain1_any (x : Df) (A : Option Addr) (c : Nat) (L : List ByteArray) (gB : Nat) (w : World) (kB : Blk w gB 67 #[.slice A L.length c]) (hL : Reads w w.heap.size 1 A L.length (strsV L)) (hm : L.length ≤ 9223372036854775807) :
    Calls Try.prog 39 #[.agg #[.string x.name, .int .i64 x.kind, .int .i64 x.frag, .int .i64 x.at_, .int .i64 x.size, .int .i64 x.align], .pointer (some ⟨gB, 0, none⟩)] w fun e w' => e = .returned (.bool (decide (x.name ∈ L))) ∧ Below w.heap.size w w' := by
  have kX := Blk.new w 78 #[.string x.name, .int .i64 x.kind, .int .i64 x.frag, .int .i64 x.at_, .int .i64 x.size, .int .i64 x.align]
  have hb : Below w.heap.size w (w.alloc (.cells #[.string x.name, .int .i64 x.kind, .int .i64 x.frag, .int .i64 x.at_, .int .i64 x.size, .int .i64 x.align] 78)) := by (repeat' (first | exact Below.refl _ _ | assumption | refine Below.setCell ?_ (by first | omega | exact Below.size (by assumption) | (simp; done) | (simp; omega)) _ | refine Below.alloc ?_ (by first | omega | exact Below.size (by assumption) | (simp; done) | (simp; omega)) _ | refine Below.drew ?_ | refine below_drewN ?_ _))
  replace kB := kB.all hb
  replace hL := (hL.below hb).more hb.size
  have b0 := kB.cell 0
  clear kX
  go_enter Try.func39, Try.ntmps39
  go_wp2_with fail
  refine (containsStr_any A c L x.name _ hL hm).mono ?_
  rintro e w' ⟨rfl, rfl⟩
  go_wp2
  go_ret
  exact ⟨rfl, hb⟩

set_option maxHeartbeats 8000000 in
set_option maxRecDepth 100000 in
theorem idxFDfp_any (A : Option Addr) (c : Nat) (l : List Df) (pr : Df → Bool) (gB : Nat) (w : World) (hR : Reads w w.heap.size 6 A l.length (dfsV l)) (hlm : l.length ≤ 9223372036854775807)
    (HL : ∀ x ∈ l, ∀ W, Below w.heap.size w W → Calls Try.prog 39 #[.agg #[.string x.name, .int .i64 x.kind, .int .i64 x.frag, .int .i64 x.at_, .int .i64 x.size, .int .i64 x.align], .pointer (some ⟨gB, 0, none⟩)] W fun e w' => e = .returned (.bool (pr x)) ∧ Below W.heap.size W w') :
    Calls Try.prog 94 #[.slice A l.length c, .func (.func 39) #[] #[.pointer (some ⟨gB, 0, none⟩)]] w
      fun e w' => (∃ n : Int, e = .returned (.int .i64 n) ∧ decide (0 ≤ n) = l.any pr) ∧ Below w.heap.size w w' := by
  have HL := Lib.hid HL
  go_enter Try.func94, Try.ntmps94
  go_wp2_with fail
  go_loopw [8] (fun i wr => ∃ k : Nat, k ≤ l.length ∧ i = .int .i64 k ∧ Hid ((l.take k).any pr = false) ∧ Below w.heap.size w wr) (fun i _ => l.length - (intOf i).toNat)
  case atStart => exact ⟨0, Nat.zero_le _, rfl, Lib.hid (by simp), Below.refl _ _⟩
  case round =>
    obtain ⟨k, hk, rfl, hno, hb⟩ := hrel
    by_cases hlt : k < l.length
    · obtain ⟨x, hx⟩ : ∃ x, l[k]? = some x := ⟨_, List.getElem?_eq_getElem hlt⟩
      obtain ⟨b, off, rfl, bl, c0, c1, c2, c3, c4, c5⟩ := df_get (hR.below hb) hx
      have HCx := HL.out x (List.mem_of_getElem? hx) wr hb
      have HY : Hid ((l.take (k + 1)).any pr = pr x) := by show _ = _; rw [List.take_add_one, hx, List.any_append, hno.out]; simp
      have HM : Hid (pr x = true → l.any pr = true) := fun h => List.any_eq_true.2 ⟨x, List.mem_of_getElem? hx, h⟩
      obtain ⟨t, ht⟩ : ∃ t, pr x = t := ⟨_, rfl⟩
      rw [ht] at HCx HY HM
      replace HCx := Lib.hid HCx
      clear hx ht
      cases t with
      | true =>
        have HM2 := Lib.hid (HM.out rfl)
        clear HM
        go_wp2_with (go_at_call 39; refine HCx.out.mono ?_; rintro e w' ⟨rfl, hb2⟩)
        go_ret
        exact ⟨⟨k, rfl, by rw [HM2.out]; exact decide_eq_true (by omega)⟩, hb.trans (hb2.mono hb.size)⟩
      | false =>
        go_wp2_with (go_at_call 39; refine HCx.out.mono ?_; rintro e w' ⟨rfl, hb2⟩)
        go_roundw
        case rel => exact ⟨k + 1, by omega, by go_num, HY, hb.trans (hb2.mono hb.size)⟩
        case measure => simp [intOf]; omega
    · obtain rfl : k = l.length := by omega
      go_wp2
      go_ret
      exact ⟨⟨-1, rfl, by have := hno.out; rw [List.take_length] at this; rw [this]; rfl⟩, hb⟩
set_option maxHeartbeats 8000000 in
theorem hasFDfp_any (A : Option Addr) (c : Nat) (l : List Df) (pr : Df → Bool) (gB : Nat) (w : World) (hR : Reads w w.heap.size 6 A l.length (dfsV l)) (hlm : l.length ≤ 9223372036854775807)
    (HL : ∀ x ∈ l, ∀ W, Below w.heap.size w W → Calls Try.prog 39 #[.agg #[.string x.name, .int .i64 x.kind, .int .i64 x.frag, .int .i64 x.at_, .int .i64 x.size, .int .i64 x.align], .pointer (some ⟨gB, 0, none⟩)] W fun e w' => e = .returned (.bool (pr x)) ∧ Below W.heap.size W w') :
    Calls Try.prog 34 #[.slice A l.length c, .func (.func 39) #[] #[.pointer (some ⟨gB, 0, none⟩)]] w
      fun e w' => e = .returned (.bool (l.any pr)) ∧ Below w.heap.size w w' := by
  have HI := Lib.hid (idxFDfp_any A c l pr gB w hR hlm HL)
  clear HL
  go_enter Try.func34, Try.ntmps34
  go_wp2_with fail
  refine HI.out.mono ?_
  rintro e w1 ⟨⟨n, rfl, hn⟩, hb⟩
  replace hn := Lib.hid hn
  go_wp2
  go_ret
  exact ⟨by rw [← hn.out]; rfl, hb⟩

/-! ### rows kept where a row of another type grows -/
theorem EV.srow {w wr w' : World} {base base' size n : Nat} {t : TypeId} {z v : Value} {qs : List PtM} {xs : List Value} (h : EV w wr base z qs) (hv : wr.ownsRow base' t size v n xs) (hB : base ≤ base') (hg : wr.grownBy w' v.ownBlock) (h0 : 44 ≠ t) (h1 : 100 ≠ t) (h2 : 78 ≠ t) (h3 : 5 ≠ t) (h4 : 119 ≠ t) : EV w w' base z qs :=
  ⟨own_kept h.hz hg (own_row_ne h.hz hv h0), fun q hq => (h.each q hq).row hv hg h1 h2 h3 h4, h.hB.grown hg h.hb (fun g hg' => Nat.le_trans hB (hv.lt g hg').1), Nat.le_trans h.hb hg.size⟩
theorem EV.set_ {w wr : World} {base g j : Nat} {z : Value} {qs : List PtM} {t : TypeId} {cs : Array Value} (h : EV w wr base z qs) (hb : Blk wr g t cs) (hg : base ≤ g) (h0 : 44 ≠ t) (h1 : 100 ≠ t) (h2 : 78 ≠ t) (h3 : 5 ≠ t) (h4 : 119 ≠ t) (u : Value) : EV w (wr.setCell ⟨g, j, none⟩ u) base z qs :=
  ⟨own_setCell h.hz (own_blk_ne h.hz hb h0) u, fun q hq => (h.each q hq).blk hb h1 h2 h3 h4 u, h.hB.setCell hg u, by have := h.hb; simpa [World.setCell] using this⟩
theorem cells_newg {w : World} {g : Nat} {t : TypeId} {xs : List Value} (hg : g = w.heap.size) (j : Nat) (u : Value) (hu : xs[j]? = some u) : (w.alloc (.cells xs.toArray t)).cell? ((⟨g, 0, none⟩ : Addr).add j) = some u := by
  subst hg
  exact cells_new j u hu
/-- Items that are gathered, each of one part. -/
structure IO (w wr : World) (v : Value) (l : List PtM) (its : List ItM) : Prop where
  row : wr.ownsRow w.heap.size 70 2 v its.length (itsV its)
  each : ∀ x ∈ its, x.arch = false ∧ wr.ownsRow w.heap.size 44 2 (.slice x.pa x.ps.length x.pc) x.ps.length (ptsV x.ps)
  ps : its.map ItM.ps = l.map fun p => [p]
  hB : Below w.heap.size w wr
section
variable {w wr w' : World} {v : Value} {l : List PtM} {its : List ItM}
theorem IO.all (h : IO w wr v l its) (hb : Below wr.heap.size wr w') : IO w w' v l its := ⟨own_all h.row hb, fun x hx => ⟨(h.each x hx).1, own_all (h.each x hx).2 hb⟩, h.ps, h.hB.trans (hb.mono h.hB.size)⟩
theorem IO.srow {base' size n : Nat} {t : TypeId} {u : Value} {xs : List Value} (h : IO w wr v l its) (hv : wr.ownsRow base' t size u n xs) (hB : w.heap.size ≤ base') (hg : wr.grownBy w' u.ownBlock) (h0 : 70 ≠ t) (h1 : 44 ≠ t) : IO w w' v l its :=
  ⟨own_kept h.row hg (own_row_ne h.row hv h0), fun x hx => ⟨(h.each x hx).1, own_kept (h.each x hx).2 hg (own_row_ne (h.each x hx).2 hv h1)⟩, h.ps, h.hB.grown hg h.hB.size (fun g hg' => Nat.le_trans hB (hv.lt g hg').1)⟩
theorem IO.set_ {g j : Nat} {t : TypeId} {cs : Array Value} (h : IO w wr v l its) (hb : Blk wr g t cs) (hg : w.heap.size ≤ g) (h0 : 70 ≠ t) (h1 : 44 ≠ t) (u : Value) : IO w (wr.setCell ⟨g, j, none⟩ u) v l its :=
  ⟨own_setCell h.row (own_blk_ne h.row hb h0) u, fun x hx => ⟨(h.each x hx).1, own_setCell (h.each x hx).2 (own_blk_ne (h.each x hx).2 hb h1) u⟩, h.ps, h.hB.setCell hg u⟩
theorem itsV_append (l m : List ItM) : itsV (l ++ m) = itsV l ++ itsV m := by unfold itsV; rw [List.flatMap_append]
theorem IO.push (h : IO w wr v l its) {p : PtM} {x : ItM} (hx : x.ps = [p]) (hxa : x.arch = false) (ho : wr.ownsRow w.heap.size 44 2 (.slice x.pa x.ps.length x.pc) x.ps.length (ptsV x.ps)) {w5 : World} {v' : Value} (hn : w5.ownsRow w.heap.size 70 2 v' (its.length + 1) (itsV its ++ x.cells)) (hg : wr.grownBy w5 v.ownBlock) : IO w w5 v' (l ++ [p]) (its ++ [x]) := by
  refine ⟨?_, fun y hy => ?_, by rw [List.map_append, List.map_append, h.ps]; simp [hx], h.hB.grown hg h.hB.size (fun g hg' => (h.row.lt g hg').1)⟩
  · rw [itsV_append, List.length_append]
    simpa [itsV] using hn
  · rcases List.mem_append.1 hy with hy | hy
    · exact ⟨(h.each y hy).1, own_kept (h.each y hy).2 hg (own_row_ne (h.each y hy).2 h.row (by decide))⟩
    · obtain rfl := List.mem_singleton.1 hy
      exact ⟨hxa, own_kept ho hg (own_row_ne ho h.row (by decide))⟩
theorem IO.len (h : IO w wr v l its) : its.length = l.length := by
  have := congrArg List.length h.ps
  simpa using this
theorem IO.at_ (h : IO w wr v l its) (hp : ∀ p ∈ l, p.At w w.heap.size) : ∀ x ∈ its, x.Good wr wr.heap.size := fun x hx => by
  have hxl : x.ps ∈ l.map fun p => [p] := by rw [← h.ps]; exact List.mem_map_of_mem hx
  obtain ⟨p, hp1, hp2⟩ := List.mem_map.1 hxl
  refine ⟨⟨Reads.of_own (h.each x hx).2, fun q hq => ?_⟩, by rw [← hp2]; simp⟩
  rw [← hp2] at hq
  obtain rfl := List.mem_singleton.1 hq
  exact (hp q hp1).keep h.hB h.hB.size
/-- One archive more. -/
theorem IO.more (h : IO w wr v l its) (hp : ∀ p ∈ l, p.At w w.heap.size) {x : ItM} (hx : PtsAt w w.heap.size x.pa x.ps) (hxm : x.ps.length ≤ 9223372036854775807) {w5 : World} {A' : Option Addr} {c' : Nat} (hn : w5.ownsRow w.heap.size 70 2 (.slice A' (its.length + 1) c') (its.length + 1) (itsV its ++ x.cells)) (hg : wr.grownBy w5 v.ownBlock) : ItsAt w5 w5.heap.size A' (its ++ [x]) ∧ Below w.heap.size w w5 := by
  have hb : Below w.heap.size w w5 := h.hB.grown hg h.hB.size (fun g hg' => (h.row.lt g hg').1)
  refine ⟨⟨?_, fun y hy => ?_⟩, hb⟩
  · have := Reads.of_own hn
    rw [itsV_append, List.length_append]
    simpa [itsV] using this
  · rcases List.mem_append.1 hy with hy | hy
    · have hyl : y.ps ∈ l.map fun p => [p] := by rw [← h.ps]; exact List.mem_map_of_mem hy
      obtain ⟨p, hp1, hp2⟩ := List.mem_map.1 hyl
      refine ⟨⟨Reads.of_own (own_kept (h.each y hy).2 hg (own_row_ne (h.each y hy).2 h.row (by decide))), fun q hq => ?_⟩, by rw [← hp2]; simp⟩
      rw [← hp2] at hq
      obtain rfl := List.mem_singleton.1 hq
      exact (hp q hp1).keep hb hb.size
    · obtain rfl := List.mem_singleton.1 hy
      exact ⟨hx.keep hb hb.size, hxm⟩
theorem IO.ers (h : IO w wr v l its) : its.map ItM.er = l.map fun p => ⟨false, [p.er]⟩ := by
  have h1 : its.map ItM.er = its.map fun x => (⟨false, x.ps.map PtM.er⟩ : Itm) := List.map_congr_left fun x hx => by
    show (⟨x.arch, _⟩ : Itm) = _
    rw [(h.each x hx).1]
  have h2 : its.map (fun x => (⟨false, x.ps.map PtM.er⟩ : Itm)) = (its.map ItM.ps).map fun ps => ⟨false, ps.map PtM.er⟩ := by rw [List.map_map]; rfl
  rw [h1, h2, h.ps, List.map_map]
  rfl
end
end Go.Proofs.Ytbhjdinjoonngaa

/- ropewalklaw.ArchivePlain: the call returns true. -/
namespace Go.Proofs.Ytbhjdinjoonngaa
open Go.RowKit

theorem Try.infoItms : (Try.prog.info? 70).map (fun i => (i.zero, i.size, i.bytes)) = some (some (.agg #[.bool false, .slice none 0 0]), 2, 32) := by kernel_rfl
theorem it_one (x : ItM) : ∀ u ∈ x.cells, u.oneCell' = true := by
  intro u hu
  simp only [ItM.cells, List.mem_cons, List.not_mem_nil, or_false] at hu
  rcases hu with rfl | rfl <;> rfl
/-- What archive.Choose says of parts that are no archive's. -/
theorem plain_chosen {l : List Prt} {first : List ByteArray} (h0 : (chooseP (l.map fun p => ⟨false, [p]⟩) first).2 = 0) : (chooseP (l.map fun p => ⟨false, [p]⟩) first).1 = l ∧ chooseE (l.map fun p => ⟨false, [p]⟩) first = 0 := by
  unfold chooseP at h0 ⊢
  by_cases hE : chooseE (l.map fun p => ⟨false, [p]⟩) first = 0
  · rw [if_neg (by simp [hE])]
    refine ⟨?_, hE⟩
    show chosenP _ _ = _
    unfold chosenP
    rw [chosen_plain first _ (fun x hx => by obtain ⟨p, _, rfl⟩ := List.mem_map.1 hx; rfl)]
    simp only [List.nil_append, List.flatMap_map]
    induction l with
    | nil => rfl
    | cons a r ih => rw [List.flatMap_cons]; simp
  · rw [if_pos hE] at h0
    exact absurd h0 hE
theorem chooseE_parts {l : List Prt} {first : List ByteArray} (h : chooseE (l.map fun p => ⟨false, [p]⟩) first = 0) : (∀ p ∈ l, ckPart p = 0) ∧ first.length ≤ 12 := by
  unfold chooseE at h
  by_cases hc : ckItems (l.map fun p => (⟨false, [p]⟩ : Itm)) = 0
  · rw [if_neg (by simp [hc])] at h
    refine ⟨fun p hp => ?_, ?_⟩
    · exact (ckItem_zero ((ckItems_zero hc).2 ⟨false, [p]⟩ (List.mem_map.2 ⟨p, hp, rfl⟩))).2.2 p (by simp)
    · by_cases h12 : 12 < first.length
      · rw [if_pos h12] at h; cases h
      · omega
  · rw [if_pos hc] at h; exact absurd h hc
theorem own_len (A : Option Addr) (n n' c c' : Nat) : (Value.slice A n c).ownBlock = (Value.slice A n' c').ownBlock := by cases A <;> rfl
/-- An archive that defines nothing that is wanted. -/
theorem plain_more {L more : List Prt} {first : List ByteArray} (h0 : (chooseP (L.map (fun p => (⟨false, [p]⟩ : Itm)) ++ [⟨true, more⟩]) first).2 = 0) (hn : ∀ p ∈ more, ∀ d ∈ p.dfs, d.name ∉ first ++ L.flatMap wantedP) : (chooseP (L.map (fun p => (⟨false, [p]⟩ : Itm)) ++ [⟨true, more⟩]) first).1 = L := by
  by_cases hE : chooseE (L.map (fun p => (⟨false, [p]⟩ : Itm)) ++ [⟨true, more⟩]) first = 0
  · rw [chooseP_ok hE]
    show chosenP _ _ = _
    rw [chosen_snoc]
    have h1 : chosenP (L.map fun p => (⟨false, [p]⟩ : Itm)) first = L := by
      unfold chosenP
      rw [chosen_plain first _ (fun x hx => by obtain ⟨p, _, rfl⟩ := List.mem_map.1 hx; rfl)]
      simp only [List.nil_append, List.flatMap_map]
      clear h0 hn hE
      induction L with
      | nil => rfl
      | cons a r ih => rw [List.flatMap_cons]; simp
    rw [h1]
    unfold itemStep
    rw [if_pos rfl]
    refine arch_none fun p hp => ?_
    unfold helpsB
    refine List.any_eq_false.2 fun d hd => ?_
    have := hn p hp d hd
    unfold helpD wantS
    rw [decide_eq_false this]
    simp
  · unfold chooseP at h0
    rw [if_pos hE] at h0
    exact absurd h0 hE

set_option maxRecDepth 100000 in
set_option maxHeartbeats 4000000 in
theorem archivePlain_any (A Am Af : Option Addr) (c cm cf : Nat) (l more : List PtM) (first : List ByteArray) (w : World) (hl : PtsAt w w.heap.size A l) (hlm : l.length ≤ 9223372036854775807) (hlc : l.length ≤ c) (hm : PtsAt w w.heap.size Am more) (hmm : more.length ≤ 9223372036854775807) (hf : Reads w w.heap.size 1 Af first.length (strsV first)) (hfm : first.length ≤ 9223372036854775807) :
    Calls Try.prog 8 #[.slice A l.length c, .slice Am more.length cm, .slice Af first.length cf] w fun e w' => e = .returned (.bool true) ∧ Below w.heap.size w w' := by
  obtain ⟨m, hmv⟩ : ∃ m, m = min l.length 11 := ⟨_, rfl⟩
  obtain ⟨L, hL⟩ : ∃ L, L = l.take m := ⟨_, rfl⟩
  have hLm : L.length = m := by rw [hL, List.length_take, hmv]; omega
  have hm11 : m ≤ 11 := by omega
  have hml : m ≤ l.length := by omega
  have hmc : m ≤ c := by omega
  have HLA : Hid (∀ p ∈ L, p.At w w.heap.size) := fun p hp => hl.each p (by rw [hL] at hp; exact List.mem_of_mem_take hp)
  have HLK : Hid (∀ (k : Nat) (p : PtM), l[k]? = some p → k < m → L[k]? = some p) := fun k p hp hk => by rw [hL, List.getElem?_take_of_lt hk]; exact hp
  have hmn : min (l.length : Int) 11 = (m : Int) := by omega
  have HLM := Lib.hid hLm
  clear hmv hL hLm
  go_enter Try.func8, Try.ntmps8
  go_upto_region 2 with (fail)
  go_wp2_with fail
  go_loopw [7, 26] (fun v i wr => ∃ (k : Nat) (its : List ItM), k ≤ m ∧ i = .int .i64 k ∧ IO w wr v (L.take k) its) (fun _ i _ => m - (intOf i).toNat)
  case atStart => exact ⟨0, [], Nat.zero_le _, rfl, ⟨World.ownsRow_nil _ _ _ _, fun x hx => absurd hx (by simp), rfl, Below.refl _ _⟩⟩
  case round =>
    obtain ⟨k, its, hk, rfl, hIO⟩ := hrel
    have hil := hIO.len
    rw [List.length_take, HLM.out, Nat.min_eq_left hk] at hil
    have hil11 : its.length ≤ 11 := by omega
    have HIL := Lib.hid hil
    clear hil
    obtain ⟨Ai, ci, rfl, hic, hix⟩ := own_form hIO.row
    by_cases hlt : k < m
    · obtain ⟨p, hp⟩ : ∃ p, l[k]? = some p := ⟨_, List.getElem?_eq_getElem (by omega)⟩
      have hpL := HLK.out k p hp hlt
      obtain ⟨b, off, rfl, bl, c0, c1⟩ := pt_get (hl.row.below hIO.hB) hp
      have HTK : Hid (L.take (k + 1) = L.take k ++ [p]) := by show _ = _; rw [List.take_add_one, hpL]; rfl
      clear hp hpL
      go_upto_region 5 with (fail)
      have kQ := Blk.new wr 44 #[.slice p.fa p.frs.length p.fc, .slice p.da p.dfs.length p.dc]
      have hbx : Below wr.heap.size wr (wr.alloc (.cells #[.slice (p).fa (p).frs.length (p).fc, .slice (p).da (p).dfs.length (p).dc] 44)) := by (repeat' (first | exact Below.refl _ _ | assumption | refine Below.setCell ?_ (by first | omega | exact Below.size (by assumption) | (simp; done) | (simp; omega)) _ | refine Below.alloc ?_ (by first | omega | exact Below.size (by assumption) | (simp; done) | (simp; omega)) _ | refine Below.drew ?_ | refine below_drewN ?_ _))
      replace hIO := hIO.all hbx
      obtain ⟨gQ, hgQ⟩ : ∃ g, g = wr.heap.size := ⟨_, rfl⟩
      obtain ⟨W5, hW5⟩ : ∃ W, W = wr.alloc (.cells #[.slice (p).fa (p).frs.length (p).fc, .slice (p).da (p).dfs.length (p).dc] 44) := ⟨_, rfl⟩
      rw [← hgQ] at kQ ⊢
      rw [← hW5] at kQ hIO ⊢
      clear hW5 hgQ hbx c0 c1
      have x0 := kQ.cell 0
      have x1 := kQ.cell 1
      obtain ⟨i0, hi, hiz, his, hib⟩ := info_parts Try.infoItms
      go_wp2_with (at_builtin
                   refine wpList_append_own _ rfl (.tmp 30) (.tmp 34) 71 rfl w.heap.size 70 i0 _ 2 32 Try.underlying71 hi hiz his hib rfl (by decide) _ _ _ rfl ((hIO.row.alloc _).alloc _) ⟨W5.heap.size + 1, 0, none⟩ 1 1 [.bool false, .slice (some ⟨W5.heap.size, 0, none⟩) 1 1] rfl rfl ?c1 ?c2 ?c3 ?c4 ?c5 ?_
                   case c1 => exact fun j u hu => cells_newg (by simp) j u hu
                   case c2 => exact it_one ⟨false, [p], some ⟨W5.heap.size, 0, none⟩, 1⟩
                   case c3 => unfold maxLen; omega
                   case c4 => omega
                   case c5 => have := hIO.hB.size; simp; omega
                   intro v' w6 hown6 hg6 _
                   have hst : Below W5.heap.size W5 ((W5.alloc (.cells #[.slice p.fa p.frs.length p.fc, .slice p.da p.dfs.length p.dc] 44)).alloc (.cells #[.bool false, .slice (some ⟨W5.heap.size, 0, none⟩) 1 1] 70)) := ((Below.refl _ _).alloc (Nat.le_refl _) _).alloc (by simp <;> omega) _
                   have hop := own_of_blk ((Blk.new W5 44 #[.slice p.fa p.frs.length p.fc, .slice p.da p.dfs.length p.dc]).alloc (.cells #[.bool false, .slice (some ⟨W5.heap.size, 0, none⟩) 1 1] 70)) (base := w.heap.size) (size := 2) (n := 1) hIO.hB.size rfl (by omega)
                   have hIO6 := (hIO.all hst).push (p := p) (x := ⟨false, [p], some ⟨W5.heap.size, 0, none⟩, 1⟩) rfl rfl hop hown6 hg6
                   rw [← HTK.out] at hIO6
                   clear hst hg6 hown6 hop)
      go_roundw
      case rel => exact ⟨k + 1, its ++ [⟨false, [p], some ⟨W5.heap.size, 0, none⟩, 1⟩], by omega, by go_num, hIO6⟩
      case measure => simp [intOf]; omega
    · obtain rfl : m = k := by omega
      rw [List.take_of_length_le (by rw [HLM.out]; exact Nat.le_refl _)] at hIO
      have hits : ItsAt wr wr.heap.size Ai its := ⟨Reads.of_own hIO.row, hIO.at_ HLA.out⟩
      have hfr := (hf.below hIO.hB).more hIO.hB.size
      have HCH := Lib.hid (choose_any Ai Af ci cf its first wr hits (by omega) hfr hfm)
      have hers : its.map ItM.er = (L.map PtM.er).map fun p => ⟨false, [p]⟩ := by rw [hIO.ers, List.map_map]; rfl
      rw [hers] at HCH
      have HERS := Lib.hid hers
      have HPC := Lib.hid (plain_chosen (l := L.map PtM.er) (first := first))
      clear hits hers
      go_wp2_with fail
      refine HCH.out.mono ?_
      rintro e w2 ⟨z, qs, rfl, _, hq0, hb2⟩
      obtain ⟨⟨o, n⟩, ho⟩ : ∃ r, chooseP ((L.map PtM.er).map fun p => ⟨false, [p]⟩) first = r := ⟨_, rfl⟩
      rw [ho] at hq0 HPC ⊢
      dsimp only at hq0 ⊢
      have HO := Lib.hid ho
      clear ho HCH
      have hw1 : w.heap.size ≤ wr.heap.size := hIO.hB.size
      by_cases hn : n = 0
      · subst hn
        obtain ⟨hev, hqe⟩ := hq0 rfl
        obtain ⟨hol, hce⟩ := HPC.out rfl
        dsimp only at hol
        rw [hol] at hqe
        obtain ⟨hcp, hf12⟩ := chooseE_parts hce
        have hqm : qs.length = m := by
          have := congrArg List.length hqe
          simp only [List.length_map] at this
          rw [this]; exact HLM.out
        have HQE := Lib.hid hqe
        have HCP : Hid (∀ q ∈ qs, ckPart q.er = 0) := fun q hq => hcp q.er (by rw [← hqe]; exact List.mem_map_of_mem hq)
        obtain ⟨Az, cz, rfl, hzc, _⟩ := own_form hev.hz
        have HQM := Lib.hid hqm
        have hIO2 := hIO.all hb2
        rw [hqm, HIL.out]
        clear hq0 HPC hqe hol hce hcp hIO hfr hb2 HO hqm
        go_wp2_with fail
        refine (taken_any w2).mono ?_
        rintro e w3 ⟨rfl, hb3⟩
        replace hev := hev.all hb3
        replace hIO2 := hIO2.all hb3
        have hbS : wr.heap.size ≤ w3.heap.size := hev.hb
        clear hb3
        have q1 : ((m : Int) != (m : Int)) = false := by simp
        have hfr := (hf.below hIO2.hB).more hIO2.hB.size
        go_wp2_with fail
        refine (cloneStrsC_any Af first.length cf (strsV first) w3 hfr (strs_one _) (by omega) hfm).mono ?_
        rintro e w4 ⟨v4, rfl, hs4, hb4⟩
        replace hev := hev.all hb4
        replace hIO2 := hIO2.all hb4
        obtain ⟨A4, c4, rfl, _, _⟩ := own_form hs4
        clear q1 hfr
        go_upto_region 13 with (fail)
        have kB := Blk.new w4 67 #[.slice A4 first.length c4]
        have hbx : Below w4.heap.size w4 (w4.alloc (.cells #[.slice A4 first.length c4] 67)) := by (repeat' (first | exact Below.refl _ _ | assumption | refine Below.setCell ?_ (by first | omega | exact Below.size (by assumption) | (simp; done) | (simp; omega)) _ | refine Below.alloc ?_ (by first | omega | exact Below.size (by assumption) | (simp; done) | (simp; omega)) _ | refine Below.drew ?_ | refine below_drewN ?_ _))
        have hgB0 : w3.heap.size ≤ w4.heap.size := hb4.size
        replace hev := hev.all hbx
        replace hIO2 := hIO2.all hbx
        replace hs4 := own_all hs4 hbx
        obtain ⟨gB, hgB⟩ : ∃ g, g = w4.heap.size := ⟨_, rfl⟩
        obtain ⟨W5, hW5⟩ : ∃ W, W = w4.alloc (.cells #[.slice A4 first.length c4] 67) := ⟨_, rfl⟩
        rw [← hgB] at kB hgB0 ⊢
        rw [← hW5] at kB hev hIO2 hs4 ⊢
        clear hW5 hgB hbx hb4
        have hw3 : w.heap.size ≤ w3.heap.size := Nat.le_trans hw1 hbS
        obtain ⟨i1, hi1, hi1z, hi1s, hi1b⟩ := info_parts Try.infoStrsC
        go_wp2_with fail
        go_loopw [59] (fun i wx => ∃ (k : Nat) (Lk : List ByteArray) (vk : Value), k ≤ m ∧ i = .int .i64 k ∧ Hid (Lk = first ++ ((qs.take k).map PtM.er).flatMap wantedP) ∧ Lk.length ≤ 12 + 480 * k ∧ Blk wx gB 67 #[vk] ∧ wx.ownsRow w3.heap.size 9 1 vk Lk.length (strsV Lk) ∧ EV wr wx wr.heap.size (.slice Az qs.length cz) qs ∧ IO w wx (.slice Ai its.length ci) L its) (fun i _ => m - (intOf i).toNat)
        case atStart => exact ⟨0, first, .slice A4 first.length c4, Nat.zero_le _, rfl, Lib.hid (by simp), by omega, kB, hs4, hev, hIO2⟩
        case round =>
          clear kB hs4 hev hIO2
          obtain ⟨k, Lk, vk, hk, rfl, hLk, hLkl, kB, hs4, hev, hIO2⟩ := hrel
          obtain ⟨As, cs, rfl, hsc, _⟩ := own_form hs4
          by_cases hlt : k < m
          · obtain ⟨q, hq⟩ : ∃ q, qs[k]? = some q := ⟨_, List.getElem?_eq_getElem (by have := HQM.out; omega)⟩
            obtain ⟨y, hy⟩ : ∃ y, l[k]? = some y := ⟨_, List.getElem?_eq_getElem (by omega)⟩
            have hyL := HLK.out k y hy hlt
            have hqm := List.mem_of_getElem? hq
            have hqy : q.er = y.er := by
              have := congrArg (fun m : List Prt => m[k]?) HQE.out
              simp only [List.getElem?_map, hq, hyL, Option.map_some, Option.some.injEq] at this
              exact this
            have hcq := HCP.out q hqm
            have hyA := hl.each y (List.mem_of_getElem? hy)
            obtain ⟨b1, o1, hza, zb1, c0, c1⟩ := pt_get (Reads.of_own hev.hz) hq
            obtain ⟨b2, o2, hla, zb2, d0, d1⟩ := pt_get (hl.row.below hIO2.hB) hy
            have zb3 : b2 < wr.heap.size := Nat.lt_of_lt_of_le zb2 hIO2.hB.size
            have HTK : Hid (((qs.take (k + 1)).map PtM.er).flatMap wantedP = ((qs.take k).map PtM.er).flatMap wantedP ++ wantedP q.er) := by show _ = _; rw [List.take_add_one, hq, List.map_append, List.flatMap_append]; simp
            rw [hza, hla]
            have HZA := Lib.hid hza
            have HLA2 := Lib.hid hla
            have hkl : k < l.length := by omega
            have hki : (k : Int) < (l.length : Int) := by omega
            clear hq hy hyL hza hla
            go_upto_region 16 with (fail)
            have kQ := Blk.new wr 44 #[.slice q.fa q.frs.length q.fc, .slice q.da q.dfs.length q.dc]
            have hbx : Below wr.heap.size wr (wr.alloc (.cells #[.slice (q).fa (q).frs.length (q).fc, .slice (q).da (q).dfs.length (q).dc] 44)) := by (repeat' (first | exact Below.refl _ _ | assumption | refine Below.setCell ?_ (by first | omega | exact Below.size (by assumption) | (simp; done) | (simp; omega)) _ | refine Below.alloc ?_ (by first | omega | exact Below.size (by assumption) | (simp; done) | (simp; omega)) _ | refine Below.drew ?_ | refine below_drewN ?_ _))
            replace kB := kB.all hbx
            replace hs4 := own_all hs4 hbx
            replace hev := hev.all hbx
            replace hIO2 := hIO2.all hbx
            replace d0 := (hbx.cell (p := ⟨b2, o2 + k * 2, none⟩) zb3).trans d0
            replace d1 := (hbx.cell (p := ⟨b2, o2 + k * 2 + 1, none⟩) zb3).trans d1
            have hbz := hbx.size
            obtain ⟨gQ, hgQ⟩ : ∃ g, g = wr.heap.size := ⟨_, rfl⟩
            obtain ⟨W6, hW6⟩ : ∃ W, W = wr.alloc (.cells #[.slice (q).fa (q).frs.length (q).fc, .slice (q).da (q).dfs.length (q).dc] 44) := ⟨_, rfl⟩
            rw [← hgQ] at kQ zb3 hbz ⊢
            rw [← hW6] at kQ kB hs4 hev hIO2 d0 d1 hbz ⊢
            clear hW6 hgQ hbx c0 c1 zb1
            have x0 := kQ.cell 0
            have x1 := kQ.cell 1
            have zQ := kQ.lt
            have zb4 : b2 < W6.heap.size := Nat.lt_of_lt_of_le zb3 hbz
            have HSM : Hid (Calls Try.prog 18 #[.agg #[.slice q.fa q.frs.length q.fc, .slice q.da q.dfs.length q.dc], .agg #[.slice y.fa y.frs.length y.fc, .slice y.da y.dfs.length y.dc]] W6.drew fun e w' => e = .returned (.bool true) ∧ Below W6.heap.size W6 w') := by
              have := same_any q y W6.drew ((hev.each q hqm).at_.all ((Below.refl _ _).drew)) ((hyA.keep hIO2.hB hIO2.hB.size).all ((Below.refl _ _).drew))
              rw [decide_eq_true hqy] at this
              exact this.mono fun _ _ ⟨he, hb⟩ => ⟨he, (Below.refl W6.heap.size W6).drew.trans hb⟩
            have HEV := Lib.hid hev
            have HIO := Lib.hid hIO2
            have HS4 := Lib.hid hs4
            have HKB := Lib.hid kB
            clear hev hIO2 hs4 kB
            go_region_held3 (fun w' => w'.cell? ⟨gQ, 0, none⟩ = some (.slice q.fa q.frs.length q.fc) ∧ w'.cell? ⟨gQ, 1, none⟩ = some (.slice q.da q.dfs.length q.dc) ∧ w'.cell? ⟨b2, o2 + k * 2, none⟩ = some (.slice y.fa y.frs.length y.fc) ∧ w'.cell? ⟨b2, o2 + k * 2 + 1, none⟩ = some (.slice y.da y.dfs.length y.dc))
              (first | go_keep | exact ⟨(hb4.cell (p := ⟨gQ, 0, none⟩) zQ).trans x0, (hb4.cell (p := ⟨gQ, 1, none⟩) zQ).trans x1, (hb4.cell (p := ⟨b2, o2 + k * 2, none⟩) zb4).trans d0, (hb4.cell (p := ⟨b2, o2 + k * 2 + 1, none⟩) zb4).trans d1⟩)
              (first | (go_at_call 18; (with_reducible refine HSM.out.mono ?_); rintro e w7 ⟨rfl, hb4⟩))
            have hev := HEV.out.all hb4
            have hIO2 := HIO.out.all hb4
            have hs4 := own_all HS4.out hb4
            have kB := HKB.out.all hb4
            replace kQ := kQ.all hb4
            have x0 := kQ.cell 0
            have x1 := kQ.cell 1
            clear d0 d1 HSM HEV HIO HS4 HKB hb4 zb4 zQ
            go_wp2_with fail
            refine (wanted_any q w7 (hev.each q hqm).at_).mono ?_
            rintro e w8 ⟨v8, rfl, _, hv8, hb8⟩
            have hF := hv8 hcq
            have hwl := wanted_few hcq
            rw [hcq]
            have hB8 : w3.heap.size ≤ w7.heap.size := Nat.le_trans hgB0 (Nat.le_of_lt kB.lt)
            replace hF := hF.mono hB8
            replace hev := hev.all hb8
            replace hIO2 := hIO2.all hb8
            replace hs4 := own_all hs4 hb8
            replace kB := kB.all hb8
            obtain ⟨U, hU⟩ : ∃ U, U = wantedP q.er := ⟨_, rfl⟩
            rw [← hU] at hF hwl HTK
            obtain ⟨A8, c8, rfl, _, _⟩ := own_form hF
            have b0 := kB.cell 0
            have hLe : Hid (first ++ ((qs.take (k + 1)).map PtM.er).flatMap wantedP = Lk ++ U) := by show _ = _; rw [HTK.out, hLk.out, List.append_assoc]
            clear hv8 hU x0 x1 kQ hcq hqy HTK hLk
            go_wp2_with (at_builtin
                         refine wpList_append_any _ rfl (.tmp 78) (.tmp 79) 67 rfl w3.heap.size 9 i1 (.string ⟨#[]⟩) 1 16 Try.underlying67 hi1 hi1z hi1s hi1b rfl (by decide) _ _ _ rfl hs4 _ A8 U.length c8 (strsV U) rfl (Reads.of_own hF) (strs_one _) ?c2 ?c3 ?c4 ?_
                         case c2 => unfold maxLen; omega
                         case c3 => omega
                         case c4 => exact Nat.le_trans hB8 hb8.size
                         intro v9 w9 hown9 hg9 _
                         replace hown9 : w9.ownsRow w3.heap.size 9 1 v9 (Lk ++ U).length (strsV (Lk ++ U)) := by rw [strsV_append, List.length_append]; exact hown9
                         have hLUl : (Lk ++ U).length ≤ 12 + 480 * (k + 1) := by rw [List.length_append]; omega
                         obtain ⟨LU, hLU⟩ : ∃ M, M = Lk ++ U := ⟨_, rfl⟩
                         rw [← hLU] at hown9 hLUl
                         replace hLU := Lib.hid hLU
                         obtain ⟨A9, c9, rfl, _, _⟩ := own_form hown9
                         have kB9 := kB.grown hg9 (own_blk_ne hs4 kB (by decide)).symm
                         have hev9 := hev.srow hs4 hbS hg9 (by decide) (by decide) (by decide) (by decide) (by decide)
                         have hIO9 := hIO2.srow hs4 hw3 hg9 (by decide) (by decide)
                         have z9 := kB9.lt
                         have hown9s := own_setCell hown9 (p := ⟨gB, 0, none⟩) (own_blk_ne hown9 kB9 (by decide)) (.slice A9 LU.length c9)
                         have hev9s := hev9.set_ (j := 0) kB9 (Nat.le_trans hbS hgB0) (by decide) (by decide) (by decide) (by decide) (by decide) (.slice A9 LU.length c9)
                         have hIO9s := hIO9.set_ (j := 0) kB9 (Nat.le_trans hw3 hgB0) (by decide) (by decide) (.slice A9 LU.length c9)
                         have kB9s := kB9.set_ 0 (.slice A9 LU.length c9)
                         have f9 := kB9.frozen 0
                         have b9 := kB9.cell 0
                         clear hg9 hs4 kB hev hIO2 hF b0 hown9 hev9 hIO9 kB9)
            go_roundw
            case rel => exact ⟨k + 1, LU, .slice A9 LU.length c9, by omega, by go_num, Lib.hid (hLU.out.trans hLe.out.symm), hLUl, kB9s, hown9s, HZA.out ▸ hev9s, hIO9s⟩
            case measure => simp [intOf]; omega
          · obtain rfl : m = k := by omega
            have hwant : Hid (Lk = first ++ (L.map PtM.er).flatMap wantedP) := by
              show _ = _
              rw [hLk.out, ← HQE.out, List.take_of_length_le (by rw [HQM.out]; exact Nat.le_refl _)]
            have hLr : Reads wr wr.heap.size 1 As Lk.length (strsV Lk) := Reads.of_own hs4
            have hLm : Lk.length ≤ 9223372036854775807 := by omega
            have HEV := Lib.hid hev
            have HIO := Lib.hid hIO2
            have hmr := (hm.row.below hIO2.hB).more hIO2.hB.size
            have HME : Hid (∀ p ∈ more, p.At wr wr.heap.size) := fun p hp => (hm.each p hp).keep hIO2.hB hIO2.hB.size
            clear hev hIO2 hs4 hLk
            go_wp2_with fail
            go_loopw [84] (fun i wx => ∃ k : Nat, k ≤ more.length ∧ i = .int .i64 k ∧ Hid (∀ p ∈ more.take k, ∀ d ∈ p.dfs, d.name ∉ Lk) ∧ Below wr.heap.size wr wx) (fun i _ => more.length - (intOf i).toNat)
            case atStart => exact ⟨0, Nat.zero_le _, rfl, Lib.hid (fun p hp => absurd hp (by simp)), Below.refl _ _⟩
            case round =>
              obtain ⟨k, hk, rfl, hno, hb⟩ := hrel
              by_cases hlt : k < more.length
              · obtain ⟨p, hp⟩ : ∃ p, more[k]? = some p := ⟨_, List.getElem?_eq_getElem hlt⟩
                have hP := (HME.out p (List.mem_of_getElem? hp)).keep hb hb.size
                obtain ⟨b, off, rfl, bl, c0, c1⟩ := pt_get (hmr.below hb) hp
                have HTK : Hid ((∀ d ∈ p.dfs, d.name ∉ Lk) → ∀ p ∈ more.take (k + 1), ∀ d ∈ p.dfs, d.name ∉ Lk) := fun h q hq => by
                  rw [List.take_add_one, hp] at hq
                  rcases List.mem_append.1 hq with hq | hq
                  · exact hno.out q hq
                  · obtain rfl : q = p := by simpa using hq
                    exact h
                have hbx : Below wr.heap.size wr (wr.alloc (.cells #[.slice (p).fa (p).frs.length (p).fc, .slice (p).da (p).dfs.length (p).dc] 44)) := by (repeat' (first | exact Below.refl _ _ | assumption | refine Below.setCell ?_ (by first | omega | exact Below.size (by assumption) | (simp; done) | (simp; omega)) _ | refine Below.alloc ?_ (by first | omega | exact Below.size (by assumption) | (simp; done) | (simp; omega)) _ | refine Below.drew ?_ | refine below_drewN ?_ _))
                have HC := Lib.hid (hasFDfp_any p.da p.dc p.dfs (fun d => decide (d.name ∈ Lk)) gB (wr.alloc (.cells #[.slice (p).fa (p).frs.length (p).fc, .slice (p).da (p).dfs.length (p).dc] 44)) ((hP.df.below hbx).more hbx.size) hP.dm (fun x _ W hW => plain1_any x As cs Lk gB W (((kB.all hb).all hbx).all hW) ((((hLr.below hb).more hb.size).below hbx).more hbx.size |>.below hW |>.more hW.size) hLm))
                have hB1 := hb.trans (hbx.mono hb.size)
                rcases ha : p.dfs.any (fun d => decide (d.name ∈ Lk)) with _ | _
                · have hHTK := Lib.hid (HTK.out fun d hd hm => by have := List.any_eq_false.1 ha d hd; simp [hm] at this)
                  rw [ha] at HC
                  clear hp hP hbx ha HTK
                  go_wp2_with fail
                  refine HC.out.mono ?_
                  rintro e w6 ⟨rfl, hb6⟩
                  go_wp2_with fail
                  go_roundw
                  case rel => exact ⟨k + 1, by omega, by go_num, hHTK, hB1.trans (hb6.mono hB1.size)⟩
                  case measure => simp [intOf]; omega
                · rw [ha] at HC
                  clear hp hP hbx ha HTK
                  go_wp2_with fail
                  refine HC.out.mono ?_
                  rintro e w6 ⟨rfl, hb6⟩
                  go_wp2
                  go_ret
                  have hW := HIO.out.hB
                  have hb8 := hB1.trans (hb6.mono hB1.size)
                  exact ⟨rfl, hW.trans (hb8.mono hW.size)⟩
              · obtain rfl : k = more.length := by omega
                rw [List.take_length] at hno
                have hev := HEV.out.all hb
                have hIO := HIO.out.all hb
                have HNO : Hid (∀ p ∈ more.map PtM.er, ∀ d ∈ p.dfs, d.name ∉ first ++ (L.map PtM.er).flatMap wantedP) := fun p hp d hd => by
                  obtain ⟨q, hq, rfl⟩ := List.mem_map.1 hp
                  rw [← hwant.out]
                  exact hno.out q hq d hd
                clear HEV HIO hno hwant kB hLr hmr
                obtain ⟨i0, hi, hiz, his, hib⟩ := info_parts Try.infoItms
                have hrow := hIO.row
                rw [HIL.out] at hrow
                go_wp2_with (at_builtin
                             refine wpList_append_own _ rfl (.tmp 94) (.tmp 97) 71 rfl w.heap.size 70 i0 _ 2 32 Try.underlying71 hi hiz his hib rfl (by decide) _ _ _ rfl (hrow.alloc _) ⟨wr.heap.size, 0, none⟩ 1 1 [.bool true, .slice Am more.length cm] rfl rfl ?c1 ?c2 ?c3 ?c4 ?c5 ?_
                             case c1 => exact fun j u hu => cells_newg rfl j u hu
                             case c2 => exact it_one ⟨true, more, Am, cm⟩
                             case c3 => unfold maxLen; omega
                             case c4 => omega
                             case c5 => have := hIO.hB.size; simp; omega
                             intro v6 w6 hown6 hg6 _
                             obtain ⟨A6, c6, rfl, hc6, _⟩ := own_form hown6
                             have hst : Below wr.heap.size wr (wr.alloc (.cells #[.bool true, .slice Am more.length cm] 70)) := (Below.refl _ _).alloc (Nat.le_refl _) _
                             have hg6 : (wr.alloc (.cells #[.bool true, .slice Am more.length cm] 70)).grownBy w6 (Value.slice Ai m ci).ownBlock := hg6
                             rw [own_len Ai m its.length ci ci] at hg6
                             have hown6' : w6.ownsRow w.heap.size 70 2 (.slice A6 (its.length + 1) c6) (its.length + 1) (itsV its ++ ItM.cells ⟨true, more, Am, cm⟩) := by rw [HIL.out]; exact hown6
                             obtain ⟨hits, hB6⟩ := (hIO.all hst).more HLA.out hm hmm hown6' hg6
                             have hev6 := hev.all hst
                             have hz6 := own_kept hev6.hz hg6 (own_row_ne hev6.hz (hIO.all hst).row (show 44 ≠ 70 by decide))
                             have hq6 : Hid (∀ q ∈ qs, q.Own w6 _) := fun q hq => (hev6.each q hq).row (hIO.all hst).row hg6 (by decide) (by decide) (by decide) (by decide)
                             clear hst hown6' hg6 hev6 hown6 hrow hev hIO)
                have hfr := (hf.below hB6).more hB6.size
                have HCH := Lib.hid (choose_any A6 Af c6 cf (its ++ [⟨true, more, Am, cm⟩]) first w6 hits (by simp; omega) hfr hfm)
                rw [List.map_append, HERS.out] at HCH
                have hle : (its ++ [(⟨true, more, Am, cm⟩ : ItM)]).length = m + 1 := by rw [List.length_append, HIL.out]; rfl
                rw [hle] at HCH
                have HPM : Hid ((chooseP ((L.map PtM.er).map (fun p => (⟨false, [p]⟩ : Itm)) ++ List.map ItM.er [⟨true, more, Am, cm⟩]) first).2 = 0 → (chooseP ((L.map PtM.er).map (fun p => (⟨false, [p]⟩ : Itm)) ++ List.map ItM.er [⟨true, more, Am, cm⟩]) first).1 = L.map PtM.er) := fun h => plain_more (more := more.map PtM.er) h HNO.out
                clear hle hits hfr HNO
                refine HCH.out.mono ?_
                rintro e w7 ⟨z, qs2, rfl, _, hq0, hb7⟩
                obtain ⟨⟨o2, n2⟩, ho2⟩ : ∃ r, chooseP ((L.map PtM.er).map (fun p => (⟨false, [p]⟩ : Itm)) ++ List.map ItM.er [⟨true, more, Am, cm⟩]) first = r := ⟨_, rfl⟩
                rw [ho2] at hq0 HPM ⊢
                dsimp only at hq0 ⊢
                clear ho2 HCH
                have hB7 : Below w.heap.size w w7 := hB6.trans (hb7.mono hB6.size)
                by_cases hn2 : n2 = 0
                · subst hn2
                  obtain ⟨hev2, hqe2⟩ := hq0 rfl
                  have ho2 := HPM.out rfl
                  dsimp only at ho2 hqe2
                  rw [ho2] at hqe2
                  have hz7 := own_all hz6 hb7
                  obtain ⟨A7, c7, rfl, hc7, _⟩ := own_form hev2.hz
                  have hql : qs2.length = qs.length := by
                    have := congrArg List.length (hqe2.trans HQE.out.symm)
                    simpa using this
                  have HE := Lib.hid (equalParts_any A7 Az c7 cz qs2 qs w7 ⟨Reads.of_own hev2.hz, fun q hq => (hev2.each q hq).at_⟩ ⟨Reads.of_own hz7, fun q hq => ((hq6.out q hq).all hb7).at_⟩ (by rw [hql, HQM.out]; omega) (by rw [HQM.out]; omega))
                  rw [decide_eq_true (hqe2.trans HQE.out.symm), hql, HQM.out] at HE
                  rw [hql, HQM.out]
                  clear hql ho2 hqe2 hev2 hq0 hz7 hc7
                  go_wp2_with fail
                  refine HE.out.mono ?_
                  rintro e w8 ⟨rfl, hb8⟩
                  go_wp2
                  go_ret
                  exact ⟨rfl, hB7.trans (hb8.mono hB7.size)⟩
                · have hx0 : (n2 != 0) = true := by simpa using hn2
                  clear hn2 hq0
                  go_wp2_with fail
                  go_ret
                  exact ⟨rfl, hB7⟩
      · have hx0 : (n != 0) = true := by simpa using hn
        have hB := hIO.hB.trans (hb2.mono hIO.hB.size)
        clear hn hq0 HPC
        go_wp2_with fail
        refine (taken_any w2).mono ?_
        rintro e w3 ⟨rfl, hb3⟩
        go_wp2_with fail
        refine (taken_any w3).mono ?_
        rintro e w4 ⟨rfl, hb4⟩
        go_wp2
        go_ret
        exact ⟨rfl, (hB.trans (hb3.mono hB.size)).trans (hb4.mono (Nat.le_trans hB.size hb3.size))⟩
end Go.Proofs.Ytbhjdinjoonngaa
