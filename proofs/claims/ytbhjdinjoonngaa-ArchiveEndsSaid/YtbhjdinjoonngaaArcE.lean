/- ropewalklaw.ArchiveEnds: its closures. -/
import Derived.Test.YtbhjdinjoonngaaArcA
import Derived.Test.YtbhjdinjoonngaaSameW
set_option linter.all false
namespace Go.Proofs.Ytbhjdinjoonngaa
open Go.RowKit

/-- Two sets of names, each in a variable of the call's own. -/
structure EnIs (w : World) (g1 g2 gW gD nW nD : Nat) (first : List ByteArray) (out : List Prt) : Prop where
  b1 : Blk w g1 72 #[.map (some gW)]
  b2 : Blk w g2 72 #[.map (some gD)]
  ne : gW ≠ gD
  hw : SetIs w gW nW (wantS first out)
  hd : SetIs w gD nD (haveS out)
section
variable {w w' : World} {g1 g2 gW gD nW nD : Nat} {first : List ByteArray} {out : List Prt}
theorem EnIs.all (h : EnIs w g1 g2 gW gD nW nD first out) (hb : Below w.heap.size w w') : EnIs w' g1 g2 gW gD nW nD first out := ⟨h.b1.all hb, h.b2.all hb, h.ne, h.hw.all hb, h.hd.all hb⟩
theorem EnIs.drew (h : EnIs w g1 g2 gW gD nW nD first out) : EnIs w.drew g1 g2 gW gD nW nD first out := ⟨h.b1, h.b2, h.ne, h.hw, h.hd⟩
theorem EnIs.two_ev (h : EnIs w g1 g2 gW gD nW nD first out) (ht : TwoBy w w' gW gD) {w0 : World} {base : Nat} {z : Value} {qs : List PtM} (he : EV w0 w base z qs) (h1 : base ≤ gW) (h2 : base ≤ gD) : EV w0 w' base z qs := by
  obtain ⟨wm, a, b⟩ := ht
  exact (h.hd.kept a (fun e => h.ne (by injection e with e; exact e.symm))).ev (h.hw.ev he h1 a) h2 b
theorem EnIs.two_blk (h : EnIs w g1 g2 gW gD nW nD first out) (ht : TwoBy w w' gW gD) {g' : Nat} {t : TypeId} {cs : Array Value} (hb : Blk w g' t cs) : Blk w' g' t cs := by
  obtain ⟨wm, a, b⟩ := ht
  exact (h.hd.kept a (fun e => h.ne (by injection e with e; exact e.symm))).blk (h.hw.blk hb a) b
end

theorem mem_move {s : ByteArray} {l W : List ByteArray} (x : ByteArray) : x ∈ s :: (l ++ W) ↔ x ∈ l ++ (some s).toList ++ W := by
  simp only [List.mem_cons, List.mem_append, Option.toList_some, List.not_mem_nil, or_false]
  constructor
  · rintro (h | h | h)
    · exact .inl (.inr h)
    · exact .inl (.inl h)
    · exact .inr h
  · rintro ((h | h) | h)
    · exact .inr (.inl h)
    · exact .inl h
    · exact .inr (.inr h)
theorem TwoBy.intro {w wm w' : World} {g1 g2 : Nat} (h1 : w.grownBy wm (some g1)) (h2 : wm.grownBy w' (some g2)) : TwoBy w w' g1 g2 := ⟨wm, h1, h2⟩

set_option maxHeartbeats 8000000 in
set_option maxRecDepth 100000 in
theorem endsTake_any (p : PtM) (g1 g2 gW gD nW nD : Nat) (first : List ByteArray) (out : List Prt) (w : World) (h : p.At w w.heap.size) (hc : ckPart p.er = 0) (hS : EnIs w g1 g2 gW gD nW nD first out) (hn : nW ≤ 100000) (hn' : nD ≤ 100000) :
    Calls Try.prog 30 #[.agg #[.slice p.fa p.frs.length p.fc, .slice p.da p.dfs.length p.dc], .pointer (some ⟨g1, 0, none⟩), .pointer (some ⟨g2, 0, none⟩)] w fun e w' => e = .returned (.bool true) ∧ EnIs w' g1 g2 gW gD (nW + 480) (nD + 60) first (out ++ [p.er]) ∧ TwoBy w w' gW gD := by
  have kP := Blk.new w 44 #[.slice p.fa p.frs.length p.fc, .slice p.da p.dfs.length p.dc]
  have hb : Below w.heap.size w (w.alloc (.cells #[.slice (p).fa (p).frs.length (p).fc, .slice (p).da (p).dfs.length (p).dc] 44)) := by (repeat' (first | exact Below.refl _ _ | assumption | refine Below.setCell ?_ (by first | omega | exact Below.size (by assumption) | (simp; done) | (simp; omega)) _ | refine Below.alloc ?_ (by first | omega | exact Below.size (by assumption) | (simp; done) | (simp; omega)) _ | refine Below.drew ?_ | refine below_drewN ?_ _))
  have hS1 := hS.all hb
  have h1 := h.all hb
  have HC := Lib.hid hc
  have HWF := wanted_few hc
  have HDF := defined_few hc
  have HWS : Hid (∀ s ∈ wantedP p.er, s.size ≤ 8) := fun s hs => wanted_short hc hs
  have HDS : Hid (∀ s ∈ definedP p.er, s.size ≤ 8) := fun s hs => defined_short hc hs
  clear hc hS h
  go_enter Try.func30, Try.ntmps30
  go_wp2_with fail
  refine (wanted_any p _ h1).mono ?_
  rintro e w1 ⟨v1, rfl, _, hv1, hb1⟩
  have hF := hv1 HC.out
  rw [HC.out]
  obtain ⟨A1, c1, rfl, hc1, _⟩ := own_form hF
  replace hS1 := hS1.all hb1
  replace kP := kP.all hb1
  replace h1 := h1.all hb1
  have hb01 := hb.trans (hb1.mono hb.size)
  have p0 := kP.cell 0
  have p1 := kP.cell 1
  clear hb1 hv1 hb
  go_wp2_with fail
  refine (defined_any p _ h1).mono ?_
  rintro e w3 ⟨v3, rfl, _, hv3, hb3⟩
  have hG := hv3 HC.out
  rw [HC.out]
  obtain ⟨A3, c3, rfl, hc3, _⟩ := own_form hG
  replace hS1 := hS1.all hb3
  replace hF := own_all hF hb3
  have hgw := only_of_below (hb01.trans (hb3.mono hb01.size)) (some gW)
  clear hb3 hv3 h1 kP p0 p1 hb01
  obtain ⟨l1, hl1⟩ : ∃ l, l = wantedP p.er := ⟨_, rfl⟩
  rw [← hl1] at hF HWF HWS ⊢
  have HL1 := Lib.hid hl1
  obtain ⟨l2, hl2⟩ : ∃ l, l = definedP p.er := ⟨_, rfl⟩
  rw [← hl2] at hG HDF HDS ⊢
  have HL2 := Lib.hid hl2
  clear hl1 hl2
  go_wp2_with fail
  go_loopw [25] (fun i wr => ∃ k : Nat, k ≤ l1.length ∧ i = .int .i64 k ∧ SetIs wr gW (nW + k) (l1.take k ++ wantS first out) ∧ w3.grownBy wr (some gW)) (fun i _ => l1.length - (intOf i).toNat)
  case atStart => exact ⟨0, Nat.zero_le _, rfl, by simpa using hS1.hw, World.grownBy.refl _ _⟩
  case round =>
    obtain ⟨k, hk, rfl, hset, hg⟩ := hrel
    by_cases hlt : k < l1.length
    · obtain ⟨s, hs⟩ : ∃ s, l1[k]? = some s := ⟨_, List.getElem?_eq_getElem hlt⟩
      have hFr := Reads.of_own (hS1.hw.own hF hg)
      obtain ⟨b, off, u, rfl, bl, hu, hcu⟩ := hFr.at_ hlt
      rw [strsV_get hs] at hu
      injection hu with hu
      subst hu
      have s0 := (hS1.hw.blk hS1.b1 hg).cell 0
      have hs8 := HWS.out s (List.mem_of_getElem? hs)
      have HX : Hid (∀ x, x ∈ s :: (l1.take k ++ wantS first out) ↔ x ∈ l1.take (k + 1) ++ wantS first out) := fun x => by rw [List.take_add_one, hs]; exact mem_move x
      clear hs hFr
      go_wp2_with (at_mapUpdate; refine wpList_setPut _ rfl _ _ _ rfl gW (nW + k) _ hset rfl (by omega) s rfl rfl (by omega) ?_; intro w2 hs2 hg2)
      go_roundw
      case rel => exact ⟨k + 1, by omega, by go_num, hs2.ext HX.out, hg.trans hg2⟩
      case measure => simp [intOf]; omega
    · obtain rfl : k = l1.length := by omega
      have hS2 : SetIs wr gD nD (haveS out) := hS1.hd.kept hg (fun e => hS1.ne (by injection e with e; exact e.symm))
      have kS1 := hS1.hw.blk hS1.b1 hg
      have kS2 := hS1.hw.blk hS1.b2 hg
      have hG2 := hS1.hw.own hG hg
      rw [List.take_length] at hset
      have hset2 : SetIs wr gW (nW + 480) (wantS first (out ++ [p.er])) := (hset.mono (by omega)).ext fun x => by rw [mem_wantS_snoc, HL1.out]
      replace hgw := hgw.trans hg
      have hne := hS1.ne
      clear hset hS1 hF hg hG hk hlt hc1
      go_wp2_with fail
      go_loopw [34] (fun i wx => ∃ k : Nat, k ≤ l2.length ∧ i = .int .i64 k ∧ SetIs wx gD (nD + k) (l2.take k ++ haveS out) ∧ wr.grownBy wx (some gD)) (fun i _ => l2.length - (intOf i).toNat)
      case atStart => exact ⟨0, Nat.zero_le _, rfl, by simpa using hS2, World.grownBy.refl _ _⟩
      case round =>
        obtain ⟨k, hk, rfl, hset, hg⟩ := hrel
        by_cases hlt : k < l2.length
        · obtain ⟨s, hs⟩ : ∃ s, l2[k]? = some s := ⟨_, List.getElem?_eq_getElem hlt⟩
          have hFr := Reads.of_own (hS2.own hG2 hg)
          obtain ⟨b, off, u, rfl, bl, hu, hcu⟩ := hFr.at_ hlt
          rw [strsV_get hs] at hu
          injection hu with hu
          subst hu
          have s0 := (hS2.blk kS2 hg).cell 0
          have hs8 := HDS.out s (List.mem_of_getElem? hs)
          have HX : Hid (∀ x, x ∈ s :: (l2.take k ++ haveS out) ↔ x ∈ l2.take (k + 1) ++ haveS out) := fun x => by rw [List.take_add_one, hs]; exact mem_move x
          clear hs hFr
          go_wp2_with (at_mapUpdate; refine wpList_setPut _ rfl _ _ _ rfl gD (nD + k) _ hset rfl (by omega) s rfl rfl (by omega) ?_; intro w2 hs2 hg2)
          go_roundw
          case rel => exact ⟨k + 1, by omega, by go_num, hs2.ext HX.out, hg.trans hg2⟩
          case measure => simp [intOf]; omega
        · obtain rfl : k = l2.length := by omega
          rw [List.take_length] at hset
          have hset3 : SetIs wr gD (nD + 60) (haveS (out ++ [p.er])) := (hset.mono (by omega)).ext fun x => by rw [mem_haveS_snoc, HL2.out]
          have hfin : EnIs wr g1 g2 gW gD (nW + 480) (nD + 60) first (out ++ [p.er]) := ⟨hS2.blk kS1 hg, hS2.blk kS2 hg, hne, hset2.kept hg (fun e => hne (by injection e)), hset3⟩
          have htw := TwoBy.intro hgw hg
          clear hset hset3 hset2 hS2 kS1 kS2 hG2 hg hgw
          go_wp2
          go_ret
          exact ⟨rfl, hfin, htw⟩

set_option maxHeartbeats 8000000 in
set_option maxRecDepth 100000 in
theorem ends21_any (x : Df) (g1 g2 gW gD nW nD : Nat) (first : List ByteArray) (out : List Prt) (w : World) (hS : EnIs w g1 g2 gW gD nW nD first out) (hx : x.name.size ≤ 8) :
    Calls Try.prog 35 #[.agg #[.string x.name, .int .i64 x.kind, .int .i64 x.frag, .int .i64 x.at_, .int .i64 x.size, .int .i64 x.align], .pointer (some ⟨g1, 0, none⟩), .pointer (some ⟨g2, 0, none⟩)] w fun e w' => e = .returned (.bool (helpD (wantS first out) (haveS out) x)) ∧ Below w.heap.size w w' := by
  have hb : Below w.heap.size w (w.alloc (.cells #[.string x.name, .int .i64 x.kind, .int .i64 x.frag, .int .i64 x.at_, .int .i64 x.size, .int .i64 x.align] 78)) := by (repeat' (first | exact Below.refl _ _ | assumption | refine Below.setCell ?_ (by first | omega | exact Below.size (by assumption) | (simp; done) | (simp; omega)) _ | refine Below.alloc ?_ (by first | omega | exact Below.size (by assumption) | (simp; done) | (simp; omega)) _ | refine Below.drew ?_ | refine below_drewN ?_ _))
  have kX := Blk.new w 78 #[.string x.name, .int .i64 x.kind, .int .i64 x.frag, .int .i64 x.at_, .int .i64 x.size, .int .i64 x.align]
  replace hS := hS.all hb
  obtain ⟨b1, hb1⟩ : ∃ b, decide (x.name ∈ wantS first out) = b := ⟨_, rfl⟩
  obtain ⟨b2, hb2⟩ : ∃ b, decide (x.name ∈ haveS out) = b := ⟨_, rfl⟩
  have HV : Hid (helpD (wantS first out) (haveS out) x = ((x.kind != 3) && (b1 && !b2))) := by show _ = _; unfold helpD; rw [hb1, hb2]
  have l1 := hS.hw.look (s := x.name) (by omega)
  have l2 := hS.hd.look (s := x.name) (by omega)
  rw [hb1] at l1
  rw [hb2] at l2
  have s0 := hS.b1.cell 0
  have s1 := hS.b2.cell 0
  clear hb1 hb2 hx hS
  go_enter Try.func35, Try.ntmps35
  go_upto_region 1 with (fail)
  obtain ⟨W, hW⟩ : ∃ W, W = w.alloc (.cells #[.string x.name, .int .i64 x.kind, .int .i64 x.frag, .int .i64 x.at_, .int .i64 x.size, .int .i64 x.align] 78) := ⟨_, rfl⟩
  obtain ⟨gX, hgX⟩ : ∃ g, g = w.heap.size := ⟨_, rfl⟩
  rw [show Blk (w.alloc (.cells #[.string x.name, .int .i64 x.kind, .int .i64 x.frag, .int .i64 x.at_, .int .i64 x.size, .int .i64 x.align] 78)) w.heap.size = Blk W gX by rw [hW, hgX]] at kX
  rw [← hgX]
  rw [← hW] at l1 l2 s0 s1 hb ⊢
  clear hW hgX
  have x0 := kX.cell 0
  have x1 := kX.cell 1
  obtain ⟨q, hq⟩ : ∃ b, (x.kind != 3) = b := ⟨_, rfl⟩
  rw [hq] at HV
  rcases q with _ | _
  · go_wp2
    go_ret
    exact ⟨by rw [HV.out]; rfl, by (repeat' (first | exact Below.refl _ _ | assumption | refine Below.setCell ?_ (by first | omega | exact Below.size (by assumption) | (simp; done) | (simp; omega)) _ | refine Below.alloc ?_ (by first | omega | exact Below.size (by assumption) | (simp; done) | (simp; omega)) _ | refine Below.drew ?_ | refine below_drewN ?_ _))⟩
  · rcases b1 with _ | _
    · go_wp2
      go_ret
      exact ⟨by rw [HV.out]; rfl, by (repeat' (first | exact Below.refl _ _ | assumption | refine Below.setCell ?_ (by first | omega | exact Below.size (by assumption) | (simp; done) | (simp; omega)) _ | refine Below.alloc ?_ (by first | omega | exact Below.size (by assumption) | (simp; done) | (simp; omega)) _ | refine Below.drew ?_ | refine below_drewN ?_ _))⟩
    · rcases b2 with _ | _
      · go_wp2
        go_ret
        exact ⟨by rw [HV.out]; rfl, by (repeat' (first | exact Below.refl _ _ | assumption | refine Below.setCell ?_ (by first | omega | exact Below.size (by assumption) | (simp; done) | (simp; omega)) _ | refine Below.alloc ?_ (by first | omega | exact Below.size (by assumption) | (simp; done) | (simp; omega)) _ | refine Below.drew ?_ | refine below_drewN ?_ _))⟩
      · go_wp2
        go_ret
        exact ⟨by rw [HV.out]; rfl, by (repeat' (first | exact Below.refl _ _ | assumption | refine Below.setCell ?_ (by first | omega | exact Below.size (by assumption) | (simp; done) | (simp; omega)) _ | refine Below.alloc ?_ (by first | omega | exact Below.size (by assumption) | (simp; done) | (simp; omega)) _ | refine Below.drew ?_ | refine below_drewN ?_ _))⟩

set_option maxHeartbeats 8000000 in
set_option maxRecDepth 100000 in
theorem idxFDfe_any (A : Option Addr) (c : Nat) (l : List Df) (pr : Df → Bool) (g1 g2 : Nat) (w : World) (hR : Reads w w.heap.size 6 A l.length (dfsV l)) (hlm : l.length ≤ 9223372036854775807)
    (HL : ∀ x ∈ l, ∀ W, Below w.heap.size w W → Calls Try.prog 35 #[.agg #[.string x.name, .int .i64 x.kind, .int .i64 x.frag, .int .i64 x.at_, .int .i64 x.size, .int .i64 x.align], .pointer (some ⟨g1, 0, none⟩), .pointer (some ⟨g2, 0, none⟩)] W fun e w' => e = .returned (.bool (pr x)) ∧ Below W.heap.size W w') :
    Calls Try.prog 94 #[.slice A l.length c, .func (.func 35) #[] #[.pointer (some ⟨g1, 0, none⟩), .pointer (some ⟨g2, 0, none⟩)]] w
      fun e w' => (∃ n : Int, e = .returned (.int .i64 n) ∧ decide (0 ≤ n) = l.any pr) ∧ Below w.heap.size w w' := by
  have HL := Lib.hid HL
  go_enter Try.func94, Try.ntmps94
  go_wp2_with fail
  go_loopw [8] (fun i wr => ∃ k : Nat, k ≤ l.length ∧ i = .int .i64 k ∧ Hid ((l.take k).any pr = false) ∧ Below w.heap.size w wr) (fun i _ => l.length - (intOf i).toNat)
  case atStart => exact ⟨0, Nat.zero_le _, rfl, Lib.hid (by simp), Below.refl _ _⟩
  case round =>
    obtain ⟨k, hk, rfl, hno, hb⟩ := hrel
    by_cases hlt : k < l.length
    · obtain ⟨x, hx⟩ : ∃ x, l[k]? = some x := ⟨_, List.getElem?_eq_getElem hlt⟩
      obtain ⟨b, off, rfl, bl, c0, c1, c2, c3, c4, c5⟩ := df_get (hR.below hb) hx
      have HCx := HL.out x (List.mem_of_getElem? hx) wr hb
      have HY : Hid ((l.take (k + 1)).any pr = pr x) := by show _ = _; rw [List.take_add_one, hx, List.any_append, hno.out]; simp
      have HM : Hid (pr x = true → l.any pr = true) := fun h => List.any_eq_true.2 ⟨x, List.mem_of_getElem? hx, h⟩
      obtain ⟨t, ht⟩ : ∃ t, pr x = t := ⟨_, rfl⟩
      rw [ht] at HCx HY HM
      replace HCx := Lib.hid HCx
      clear hx ht
      cases t with
      | true =>
        have HM2 := Lib.hid (HM.out rfl)
        clear HM
        go_wp2_with (go_at_call 35; refine HCx.out.mono ?_; rintro e w' ⟨rfl, hb2⟩)
        go_ret
        exact ⟨⟨k, rfl, by rw [HM2.out]; exact decide_eq_true (by omega)⟩, hb.trans (hb2.mono hb.size)⟩
      | false =>
        go_wp2_with (go_at_call 35; refine HCx.out.mono ?_; rintro e w' ⟨rfl, hb2⟩)
        go_roundw
        case rel => exact ⟨k + 1, by omega, by go_num, HY, hb.trans (hb2.mono hb.size)⟩
        case measure => simp [intOf]; omega
    · obtain rfl : k = l.length := by omega
      go_wp2
      go_ret
      exact ⟨⟨-1, rfl, by have := hno.out; rw [List.take_length] at this; rw [this]; rfl⟩, hb⟩
set_option maxHeartbeats 8000000 in
theorem hasFDfe_any (A : Option Addr) (c : Nat) (l : List Df) (pr : Df → Bool) (g1 g2 : Nat) (w : World) (hR : Reads w w.heap.size 6 A l.length (dfsV l)) (hlm : l.length ≤ 9223372036854775807)
    (HL : ∀ x ∈ l, ∀ W, Below w.heap.size w W → Calls Try.prog 35 #[.agg #[.string x.name, .int .i64 x.kind, .int .i64 x.frag, .int .i64 x.at_, .int .i64 x.size, .int .i64 x.align], .pointer (some ⟨g1, 0, none⟩), .pointer (some ⟨g2, 0, none⟩)] W fun e w' => e = .returned (.bool (pr x)) ∧ Below W.heap.size W w') :
    Calls Try.prog 34 #[.slice A l.length c, .func (.func 35) #[] #[.pointer (some ⟨g1, 0, none⟩), .pointer (some ⟨g2, 0, none⟩)]] w
      fun e w' => e = .returned (.bool (l.any pr)) ∧ Below w.heap.size w w' := by
  have HI := Lib.hid (idxFDfe_any A c l pr g1 g2 w hR hlm HL)
  clear HL
  go_enter Try.func34, Try.ntmps34
  go_wp2_with fail
  refine HI.out.mono ?_
  rintro e w1 ⟨⟨n, rfl, hn⟩, hb⟩
  replace hn := Lib.hid hn
  go_wp2
  go_ret
  exact ⟨by rw [← hn.out]; rfl, hb⟩

set_option maxHeartbeats 8000000 in
set_option maxRecDepth 100000 in
theorem endsHelps_any (p : PtM) (g1 g2 gW gD nW nD : Nat) (first : List ByteArray) (out : List Prt) (w : World) (h : p.At w w.heap.size) (hc : ckPart p.er = 0) (hS : EnIs w g1 g2 gW gD nW nD first out) :
    Calls Try.prog 33 #[.agg #[.slice p.fa p.frs.length p.fc, .slice p.da p.dfs.length p.dc], .pointer (some ⟨g1, 0, none⟩), .pointer (some ⟨g2, 0, none⟩)] w fun e w' => e = .returned (.bool (helpsB first out p.er)) ∧ Below w.heap.size w w' := by
  have hb : Below w.heap.size w (w.alloc (.cells #[.slice (p).fa (p).frs.length (p).fc, .slice (p).da (p).dfs.length (p).dc] 44)) := by (repeat' (first | exact Below.refl _ _ | assumption | refine Below.setCell ?_ (by first | omega | exact Below.size (by assumption) | (simp; done) | (simp; omega)) _ | refine Below.alloc ?_ (by first | omega | exact Below.size (by assumption) | (simp; done) | (simp; omega)) _ | refine Below.drew ?_ | refine below_drewN ?_ _))
  have hd := ((h.df.below hb).more hb.size)
  have hdm := h.dm
  have HS := Lib.hid (hS.all hb)
  have HD : Hid (∀ x ∈ p.dfs, x.name.size ≤ 8) := fun x hx => nameB_short (def_name hc hx)
  clear h hc hS
  go_enter Try.func33, Try.ntmps33
  go_wp2_with fail
  refine (hasFDfe_any p.da p.dc p.dfs (helpD (wantS first out) (haveS out)) g1 g2 _ hd hdm ?_).mono ?_
  · intro x hx W' hbW
    exact ends21_any x g1 g2 gW gD nW nD first out W' (HS.out.all hbW) (HD.out x hx)
  · rintro e w' ⟨rfl, hb2⟩
    go_wp2
    go_ret
    exact ⟨rfl, hb.trans (hb2.mono hb.size)⟩

set_option maxHeartbeats 8000000 in
set_option maxRecDepth 100000 in
theorem endsSame_any (x q : PtM) (gQ : Nat) (w : World) (hx : x.At w w.heap.size) (hq : q.At w w.heap.size) (kQ : Blk w gQ 44 #[.slice q.fa q.frs.length q.fc, .slice q.da q.dfs.length q.dc]) :
    Calls Try.prog 37 #[.agg #[.slice x.fa x.frs.length x.fc, .slice x.da x.dfs.length x.dc], .pointer (some ⟨gQ, 0, none⟩)] w fun e w' => e = .returned (.bool (decide (x.er = q.er))) ∧ Below w.heap.size w w' := by
  have kX := Blk.new w 44 #[.slice x.fa x.frs.length x.fc, .slice x.da x.dfs.length x.dc]
  have hb : Below w.heap.size w (w.alloc (.cells #[.slice (x).fa (x).frs.length (x).fc, .slice (x).da (x).dfs.length (x).dc] 44)) := by (repeat' (first | exact Below.refl _ _ | assumption | refine Below.setCell ?_ (by first | omega | exact Below.size (by assumption) | (simp; done) | (simp; omega)) _ | refine Below.alloc ?_ (by first | omega | exact Below.size (by assumption) | (simp; done) | (simp; omega)) _ | refine Below.drew ?_ | refine below_drewN ?_ _))
  replace kQ := kQ.all hb
  replace hx := hx.all hb
  replace hq := hq.all hb
  have q0 := kQ.cell 0
  have q1 := kQ.cell 1
  clear kX
  go_enter Try.func37, Try.ntmps37
  go_wp2_with fail
  refine (same_any x q _ hx hq).mono ?_
  rintro e w' ⟨rfl, hb2⟩
  go_wp2
  go_ret
  exact ⟨rfl, hb.trans (hb2.mono hb.size)⟩

set_option maxHeartbeats 8000000 in
set_option maxRecDepth 100000 in
theorem idxFPte_any (A : Option Addr) (c : Nat) (l : List PtM) (pr : PtM → Bool) (gE : Nat) (w : World) (hR : Reads w w.heap.size 2 A l.length (ptsV l)) (hlm : l.length ≤ 9223372036854775807)
    (HL : ∀ x ∈ l, ∀ W, Below w.heap.size w W → Calls Try.prog 37 #[.agg #[.slice x.fa x.frs.length x.fc, .slice x.da x.dfs.length x.dc], .pointer (some ⟨gE, 0, none⟩)] W fun e w' => e = .returned (.bool (pr x)) ∧ Below W.heap.size W w') :
    Calls Try.prog 95 #[.slice A l.length c, .func (.func 37) #[] #[.pointer (some ⟨gE, 0, none⟩)]] w
      fun e w' => (∃ n : Int, e = .returned (.int .i64 n) ∧ decide (0 ≤ n) = l.any pr) ∧ Below w.heap.size w w' := by
  have HL := Lib.hid HL
  go_enter Try.func95, Try.ntmps95
  go_wp2_with fail
  go_loopw [8] (fun i wr => ∃ k : Nat, k ≤ l.length ∧ i = .int .i64 k ∧ Hid ((l.take k).any pr = false) ∧ Below w.heap.size w wr) (fun i _ => l.length - (intOf i).toNat)
  case atStart => exact ⟨0, Nat.zero_le _, rfl, Lib.hid (by simp), Below.refl _ _⟩
  case round =>
    obtain ⟨k, hk, rfl, hno, hb⟩ := hrel
    by_cases hlt : k < l.length
    · obtain ⟨x, hx⟩ : ∃ x, l[k]? = some x := ⟨_, List.getElem?_eq_getElem hlt⟩
      obtain ⟨b, off, rfl, bl, c0, c1⟩ := pt_get (hR.below hb) hx
      have HCx := HL.out x (List.mem_of_getElem? hx) wr hb
      have HY : Hid ((l.take (k + 1)).any pr = pr x) := by show _ = _; rw [List.take_add_one, hx, List.any_append, hno.out]; simp
      have HM : Hid (pr x = true → l.any pr = true) := fun h => List.any_eq_true.2 ⟨x, List.mem_of_getElem? hx, h⟩
      obtain ⟨t, ht⟩ : ∃ t, pr x = t := ⟨_, rfl⟩
      rw [ht] at HCx HY HM
      replace HCx := Lib.hid HCx
      clear hx ht
      cases t with
      | true =>
        have HM2 := Lib.hid (HM.out rfl)
        clear HM
        go_wp2_with (go_at_call 37; refine HCx.out.mono ?_; rintro e w' ⟨rfl, hb2⟩)
        go_ret
        exact ⟨⟨k, rfl, by rw [HM2.out]; exact decide_eq_true (by omega)⟩, hb.trans (hb2.mono hb.size)⟩
      | false =>
        go_wp2_with (go_at_call 37; refine HCx.out.mono ?_; rintro e w' ⟨rfl, hb2⟩)
        go_roundw
        case rel => exact ⟨k + 1, by omega, by go_num, HY, hb.trans (hb2.mono hb.size)⟩
        case measure => simp [intOf]; omega
    · obtain rfl : k = l.length := by omega
      go_wp2
      go_ret
      exact ⟨⟨-1, rfl, by have := hno.out; rw [List.take_length] at this; rw [this]; rfl⟩, hb⟩
set_option maxHeartbeats 8000000 in
theorem hasFPte_any (A : Option Addr) (c : Nat) (l : List PtM) (pr : PtM → Bool) (gE : Nat) (w : World) (hR : Reads w w.heap.size 2 A l.length (ptsV l)) (hlm : l.length ≤ 9223372036854775807)
    (HL : ∀ x ∈ l, ∀ W, Below w.heap.size w W → Calls Try.prog 37 #[.agg #[.slice x.fa x.frs.length x.fc, .slice x.da x.dfs.length x.dc], .pointer (some ⟨gE, 0, none⟩)] W fun e w' => e = .returned (.bool (pr x)) ∧ Below W.heap.size W w') :
    Calls Try.prog 36 #[.slice A l.length c, .func (.func 37) #[] #[.pointer (some ⟨gE, 0, none⟩)]] w
      fun e w' => e = .returned (.bool (l.any pr)) ∧ Below w.heap.size w w' := by
  have HI := Lib.hid (idxFPte_any A c l pr gE w hR hlm HL)
  clear HL
  go_enter Try.func36, Try.ntmps36
  go_wp2_with fail
  refine HI.out.mono ?_
  rintro e w1 ⟨⟨n, rfl, hn⟩, hb⟩
  replace hn := Lib.hid hn
  go_wp2
  go_ret
  exact ⟨by rw [← hn.out]; rfl, hb⟩
end Go.Proofs.Ytbhjdinjoonngaa
