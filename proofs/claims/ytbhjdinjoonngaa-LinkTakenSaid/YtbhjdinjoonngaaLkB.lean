/- LkB: texts that belong together. -/
import Derived.BigGuardPart
import Derived.BigQuiet
import Derived.Deep.QuietTactic
import Derived.Deep.RegionHeld3
import Derived.IntWalk
import Derived.Laws.CopyOwn
import Derived.Test.YtbhjdinjoonngaaBA
import Derived.Test.YtbhjdinjoonngaaBC
import Derived.Test.YtbhjdinjoonngaaCheckW
import Derived.Test.YtbhjdinjoonngaaDropW
import Derived.Test.YtbhjdinjoonngaaLayH
import Derived.Test.YtbhjdinjoonngaaLkA
import Derived.Test.YtbhjdinjoonngaaWalk
set_option linter.all false
/- link.filled: what it computes. -/
namespace Go.Proofs.Ytbhjdinjoonngaa
open Go.RowKit

theorem Reads.cell1 {w : World} {B b o n : Nat} {xs : List Value} {k : Nat} {u : Value} (h : Reads w B 1 (some ⟨b, o, none⟩) n xs) (hu : xs[k]? = some u) : w.cell? ⟨b, o + k, none⟩ = some u := by
  have hl := (List.getElem?_eq_some_iff.1 hu).1
  obtain ⟨b', o', e, _, hc⟩ := h.2 (by have := h.1; omega)
  injection e with e
  injection e with e1 e2
  subst e1 e2
  exact hc k u hu
theorem take_next {α β : Type} {f : β → α → β} {l : List α} {k : Nat} {x : α} {s : β} (hx : l[k]? = some x) : (l.take (k + 1)).foldl f s = f ((l.take k).foldl f s) x := by
  rw [List.take_add_one, hx, List.foldl_append]; rfl
theorem bytes_len1 {b : List UInt8} {n : Nat} (h : (b.length : Int) = n) : b.length = n := by omega

def FilledIs (w : World) (r : List UInt8 × List Flx) (e : Ending) (w' : World) : Prop :=
  ∃ v u, e = .returned (.tuple #[v, u]) ∧ w'.ownsRow w.heap.size 5 1 v r.1.length (bytesV r.1) ∧ w'.ownsRow w.heap.size 114 4 u r.2.length (flxsV r.2) ∧ Below w.heap.size w w'

set_option maxHeartbeats 20000000 in
set_option maxRecDepth 100000 in
theorem filled_any (p : PtM) (l : LyM) (base i : Nat) (w : World) (h : p.At w w.heap.size) (hl : l.At w w.heap.size) (hr : l.r = layR p.er base) (h0 : layE p.er base = 0) (hi : i < p.frs.length) :
    Calls Try.prog 100 #[.agg #[.slice p.fa p.frs.length p.fc, .slice p.da p.dfs.length p.dc], .agg #[(.slice l.fa p.frs.length l.fc), (.slice l.na (layEnd p.er base).ns.length l.nc), (.slice l.ca (layEnd p.er base).cs.length l.cc), (.int .i64 0), (.int .i64 (secFrom p.er.frs base 1 : Nat)), (.int .i64 (secFrom p.er.frs base 2 : Nat)), (.int .i64 (secFrom p.er.frs base 3 : Nat)), (.int .i64 (secFrom p.er.frs base 4 : Nat)), (.int .i64 (secFrom p.er.frs base 5 : Nat)), (.int .i64 0), (.int .i64 (toN p.er base 1 : Nat)), (.int .i64 (toN p.er base 2 : Nat)), (.int .i64 (toN p.er base 3 : Nat)), (.int .i64 (toN p.er base 4 : Nat)), (.int .i64 (toN p.er base 5 : Nat))], .int .i64 (i : Nat)] w (FilledIs w (filledP p.er base i)) := by
  obtain ⟨i0, hi0, hz0, hz1, hz2⟩ := info_parts Try.infoFlt
  have hc := (layE_zero h0).1
  have hsm := small_of hc
  have hf6 := hsm.fr
  obtain ⟨x, hx⟩ : ∃ x, p.frs[i]? = some x := ⟨_, List.getElem?_eq_getElem hi⟩
  have hxe : p.er.frs[i]? = some x.f := by simp [PtM.er, hx]
  have hxm := List.mem_of_getElem? hx
  have HFP := Lib.hid (filledP_eq (base := base) hxe)
  have HFI := Lib.hid (frag_fine hc (List.mem_of_getElem? hxe))
  have HRI : Hid (∀ r ∈ x.f.rs, (r.name.size = 0 → -1 ≤ r.frag ∧ r.frag < p.er.frs.length) ∧ r.Fine x.f.bs.length 0) := fun r hr => rel_in hc hxe hr
  have HTI : Hid (∀ r ∈ x.f.rs, ((targetA p.er base r).2 = 0 ∧ 0 ≤ (targetA p.er base r).1 ∧ (targetA p.er base r).1 ≤ 65536) ∨ (targetA p.er base r).2 = 6 ∨ (targetA p.er base r).2 = 7 ∨ (targetA p.er base r).2 = 8) := fun r hr => target_in h0 hxe hr
  have hb64 : x.f.bs.length ≤ 64 := hsm.by_ x hxm
  have hr8 : x.f.rs.length ≤ 8 := hsm.re x hxm
  have had : adrOf p.er.frs base i ≤ 65536 := by have := adr_le h0 hxe; omega
  have hfk : (natsV (layFr p.er base))[i]? = some (.int .i64 (adrOf p.er.frs base i : Nat)) := natsV_at (by unfold layFr; rw [List.getElem?_map, List.getElem?_range (List.getElem?_eq_some_iff.1 hxe).1]; rfl)
  have hlf := hl.fr
  rw [hr, layR_zero h0] at hlf
  dsimp only at hlf
  rw [show (layFr p.er base).length = p.frs.length by unfold layFr; simp [PtM.er]] at hlf
  obtain ⟨b1, o1, _, e1, _⟩ := hlf.at_ hi
  rw [e1] at hlf
  have E1 := Lib.hid e1
  clear e1
  have kP := (Blk.new w 44 #[.slice p.fa p.frs.length p.fc, .slice p.da p.dfs.length p.dc]).alloc (.cells #[(.slice l.fa p.frs.length l.fc), (.slice l.na (layEnd p.er base).ns.length l.nc), (.slice l.ca (layEnd p.er base).cs.length l.cc), (.int .i64 0), (.int .i64 (secFrom p.er.frs base 1 : Nat)), (.int .i64 (secFrom p.er.frs base 2 : Nat)), (.int .i64 (secFrom p.er.frs base 3 : Nat)), (.int .i64 (secFrom p.er.frs base 4 : Nat)), (.int .i64 (secFrom p.er.frs base 5 : Nat)), (.int .i64 0), (.int .i64 (toN p.er base 1 : Nat)), (.int .i64 (toN p.er base 2 : Nat)), (.int .i64 (toN p.er base 3 : Nat)), (.int .i64 (toN p.er base 4 : Nat)), (.int .i64 (toN p.er base 5 : Nat))] 93)
  have kL := Blk.new' (w.alloc (.cells #[.slice (p).fa (p).frs.length (p).fc, .slice (p).da (p).dfs.length (p).dc] 44)) 93 #[(.slice l.fa p.frs.length l.fc), (.slice l.na (layEnd p.er base).ns.length l.nc), (.slice l.ca (layEnd p.er base).cs.length l.cc), (.int .i64 0), (.int .i64 (secFrom p.er.frs base 1 : Nat)), (.int .i64 (secFrom p.er.frs base 2 : Nat)), (.int .i64 (secFrom p.er.frs base 3 : Nat)), (.int .i64 (secFrom p.er.frs base 4 : Nat)), (.int .i64 (secFrom p.er.frs base 5 : Nat)), (.int .i64 0), (.int .i64 (toN p.er base 1 : Nat)), (.int .i64 (toN p.er base 2 : Nat)), (.int .i64 (toN p.er base 3 : Nat)), (.int .i64 (toN p.er base 4 : Nat)), (.int .i64 (toN p.er base 5 : Nat))] (g := w.heap.size + 1) (by simp)
  have hb : Below w.heap.size w ((w.alloc (.cells #[.slice (p).fa (p).frs.length (p).fc, .slice (p).da (p).dfs.length (p).dc] 44)).alloc (.cells #[(.slice l.fa p.frs.length l.fc), (.slice l.na (layEnd p.er base).ns.length l.nc), (.slice l.ca (layEnd p.er base).cs.length l.cc), (.int .i64 0), (.int .i64 (secFrom p.er.frs base 1 : Nat)), (.int .i64 (secFrom p.er.frs base 2 : Nat)), (.int .i64 (secFrom p.er.frs base 3 : Nat)), (.int .i64 (secFrom p.er.frs base 4 : Nat)), (.int .i64 (secFrom p.er.frs base 5 : Nat)), (.int .i64 0), (.int .i64 (toN p.er base 1 : Nat)), (.int .i64 (toN p.er base 2 : Nat)), (.int .i64 (toN p.er base 3 : Nat)), (.int .i64 (toN p.er base 4 : Nat)), (.int .i64 (toN p.er base 5 : Nat))] 93)) := by (repeat' (first | exact Below.refl _ _ | assumption | refine Below.setCell ?_ (by first | omega | exact Below.size (by assumption) | (simp; done) | (simp; omega)) _ | refine Below.alloc ?_ (by first | omega | exact Below.size (by assumption) | (simp; done) | (simp; omega)) _ | refine Below.drew ?_ | refine below_drewN ?_ _))
  have hz : (w.heap.size : Nat) = w.heap.size := rfl
  have h1 := h.all hb
  have h2 := hl.keep hb hb.size
  have hlf := (hlf.below hb).more hb.size
  have hf2 := fg_get h1.fr hx
  have H0 := Lib.hid h0
  have HR := Lib.hid hr
  have HFK := Lib.hid hfk
  clear h hl hsm hz h0 hr hfk hc hx hxe
  go_enter Try.func100, Try.ntmps100
  go_upto_region 1 with (fail)
  obtain ⟨W0, hW0⟩ : ∃ W, W = (w.alloc (.cells #[.slice (p).fa (p).frs.length (p).fc, .slice (p).da (p).dfs.length (p).dc] 44)).alloc (.cells #[(.slice l.fa p.frs.length l.fc), (.slice l.na (layEnd p.er base).ns.length l.nc), (.slice l.ca (layEnd p.er base).cs.length l.cc), (.int .i64 0), (.int .i64 (secFrom p.er.frs base 1 : Nat)), (.int .i64 (secFrom p.er.frs base 2 : Nat)), (.int .i64 (secFrom p.er.frs base 3 : Nat)), (.int .i64 (secFrom p.er.frs base 4 : Nat)), (.int .i64 (secFrom p.er.frs base 5 : Nat)), (.int .i64 0), (.int .i64 (toN p.er base 1 : Nat)), (.int .i64 (toN p.er base 2 : Nat)), (.int .i64 (toN p.er base 3 : Nat)), (.int .i64 (toN p.er base 4 : Nat)), (.int .i64 (toN p.er base 5 : Nat))] 93) := ⟨_, rfl⟩
  rw [← hW0] at kP kL hb h1 h2 hf2 hlf ⊢
  obtain ⟨gL, hgL⟩ : ∃ g, g = w.heap.size + 1 := ⟨_, rfl⟩
  rw [← hgL] at kL ⊢
  clear hW0 hgL
  obtain ⟨b, off, hfa, bl, c0, c1, c2, c3, c4, c5⟩ := hf2
  have y0 := kP.cell 0
  rw [hfa] at y0
  clear hfa
  go_upto_region 2 with (fail)
  have kF := Blk.new W0 100 #[.int .i64 x.f.sect, .int .i64 x.f.align, .string x.f.group, .slice x.ba x.f.bs.length x.bc, .int .i64 x.f.size, .slice x.ra x.f.rs.length x.rc]
  have hbx : Below W0.heap.size W0 (W0.alloc (.cells #[.int .i64 x.f.sect, .int .i64 x.f.align, .string x.f.group, .slice x.ba x.f.bs.length x.bc, .int .i64 x.f.size, .slice x.ra x.f.rs.length x.rc] 100)) := by (repeat' (first | exact Below.refl _ _ | assumption | refine Below.setCell ?_ (by first | omega | exact Below.size (by assumption) | (simp; done) | (simp; omega)) _ | refine Below.alloc ?_ (by first | omega | exact Below.size (by assumption) | (simp; done) | (simp; omega)) _ | refine Below.drew ?_ | refine below_drewN ?_ _))
  have kP := kP.all hbx
  have kL := kL.all hbx
  have h1 := h1.all hbx
  have h2 := h2.keep hbx hbx.size
  have hlf := (hlf.below hbx).more hbx.size
  have hb := hb.trans (hbx.mono hb.size)
  obtain ⟨gF, hgF⟩ : ∃ g, g = W0.heap.size := ⟨_, rfl⟩
  obtain ⟨W1, hW1⟩ : ∃ W, W = W0.alloc (.cells #[.int .i64 x.f.sect, .int .i64 x.f.align, .string x.f.group, .slice x.ba x.f.bs.length x.bc, .int .i64 x.f.size, .slice x.ra x.f.rs.length x.rc] 100) := ⟨_, rfl⟩
  rw [← hgF] at kF ⊢
  rw [← hW1] at kF kP kL h1 h2 hlf hb ⊢
  clear hW1 hgF hbx y0 c0 c1 c2 c3 c4 c5
  have t3 := kF.cell 3
  have hxg := h1.each x hxm
  go_wp2_with fail
  refine (cloneBytes_any x.ba x.f.bs.length x.bc (bytesV x.f.bs) W1 hxg.by_ (bytesV_one _) (by omega) (by omega)).mono ?_
  rintro e w2 ⟨v2, rfl, hown2, hb2⟩
  obtain ⟨A2, c2, rfl, hc2, hc3⟩ := own_form hown2
  have t5 := (kF.all hb2).cell 5
  clear t3
  go_wp2_with fail
  clear t5
  go_loopw [9, 10, 27] (fun v u i' wr => ∃ (k : Nat) (bs : List UInt8) (fl : List Flx), k ≤ x.f.rs.length ∧ i' = .int .i64 k ∧ Hid ((bs, fl) = (x.f.rs.take k).foldl (fillStep p.er base i) (x.f.bs, [])) ∧ fl.length ≤ k ∧
    wr.ownsRow W1.heap.size 5 1 v bs.length (bytesV bs) ∧ wr.ownsRow W1.heap.size 114 4 u fl.length (flxsV fl) ∧ Below W1.heap.size W1 wr) (fun _ _ i' _ => x.f.rs.length - (intOf i').toNat)
  case atStart => exact ⟨0, x.f.bs, [], Nat.zero_le _, rfl, Lib.hid rfl, Nat.zero_le _, hown2, World.ownsRow_nil _ _ _ _, hb2⟩
  case round =>
    clear hown2 hb2
    obtain ⟨k, bs, fl, hk, rfl, hst, hfl, hV, hU, hbr⟩ := hrel
    obtain ⟨A3, c3, rfl, hc4, hc5⟩ := own_form hV
    obtain ⟨A4, c4, rfl, hc6, hc7⟩ := own_form hU
    by_cases hlt : k < x.f.rs.length
    · obtain ⟨r, hrk⟩ : ∃ r, x.f.rs[k]? = some r := ⟨_, List.getElem?_eq_getElem hlt⟩
      have hrm := List.mem_of_getElem? hrk
      have HNX : Hid ((x.f.rs.take (k + 1)).foldl (fillStep p.er base i) (x.f.bs, []) = fillStep p.er base i (bs, fl) r) := by show _ = _; rw [take_next hrk, hst.out]
      have hbl : bs.length = x.f.bs.length := by
        have := fold_len (p := p.er) (base := base) (i := i) (nb := x.f.bs.length) (by omega) (x.f.rs.take k) (x.f.bs, []) (fun r hr => (HRI.out r (List.mem_of_mem_take hr)).2) rfl
        rw [← hst.out] at this
        exact bytes_len1 this
      have HBL := Lib.hid hbl
      clear hbl
      obtain ⟨hfr0, hfi⟩ := HRI.out r hrm
      have hfr1 : r.name.size = 0 → r.frag < p.frs.length := fun hn => by have := (hfr0 hn).2; simpa [PtM.er] using this
      have hti := Lib.hid (HTI.out r hrm)
      obtain ⟨b5, o5, e5, bl5, g0, g1, g2, g3, g4⟩ := rel_get (hxg.re.below hbr) hrk
      rw [e5]
      clear hst hrk hrm hfr0
      go_upto_region 7 with (fail)
      have kR := Blk.new wr 119 #[.int .i64 r.at_, .int .i64 r.kind, .string r.name, .int .i64 r.frag, .int .i64 r.add]
      have hV := hV.alloc (.cells #[.int .i64 (r).at_, .int .i64 (r).kind, .string (r).name, .int .i64 (r).frag, .int .i64 (r).add] 119)
      have hU := hU.alloc (.cells #[.int .i64 (r).at_, .int .i64 (r).kind, .string (r).name, .int .i64 (r).frag, .int .i64 (r).add] 119)
      have hbx : Below wr.heap.size wr (wr.alloc (.cells #[.int .i64 (r).at_, .int .i64 (r).kind, .string (r).name, .int .i64 (r).frag, .int .i64 (r).add] 119)) := by (repeat' (first | exact Below.refl _ _ | assumption | refine Below.setCell ?_ (by first | omega | exact Below.size (by assumption) | (simp; done) | (simp; omega)) _ | refine Below.alloc ?_ (by first | omega | exact Below.size (by assumption) | (simp; done) | (simp; omega)) _ | refine Below.drew ?_ | refine below_drewN ?_ _))
      have hb7 := hbr.alloc hbr.size (.cells #[.int .i64 (r).at_, .int .i64 (r).kind, .string (r).name, .int .i64 (r).frag, .int .i64 (r).add] 119)
      obtain ⟨gR, hgR⟩ : ∃ g, g = wr.heap.size := ⟨_, rfl⟩
      obtain ⟨W7, hW7⟩ : ∃ W, W = wr.alloc (.cells #[.int .i64 (r).at_, .int .i64 (r).kind, .string (r).name, .int .i64 (r).frag, .int .i64 (r).add] 119) := ⟨_, rfl⟩
      rw [← hgR] at kR ⊢
      rw [← hW7] at kR hV hU hb7 ⊢
      clear hW7 hgR hbx g0 g1 g2 g3 g4 hbr
      have HFI1 := Lib.hid hfi
      clear hfi
      have p0 := (kP.all hb7).cell 0
      have p1 := (kP.all hb7).cell 1
      have s0 := kR.cell 0
      have s1 := kR.cell 1
      have s2 := kR.cell 2
      have s3 := kR.cell 3
      have s4 := kR.cell 4
      have HTG := Lib.hid (target_any p l base r W7 (h1.keep hb7 hb7.size) (h2.keep hb7 hb7.size) HR.out H0.out hfr1)
      clear hfr1
      have kL7 := kL.all hb7
      have x0 := kL7.cell 0
      have x1 := kL7.cell 1
      have x2 := kL7.cell 2
      have x3 := kL7.cell 3
      have x4 := kL7.cell 4
      have x5 := kL7.cell 5
      have x6 := kL7.cell 6
      have x7 := kL7.cell 7
      have x8 := kL7.cell 8
      have x9 := kL7.cell 9
      have x10 := kL7.cell 10
      have x11 := kL7.cell 11
      have x12 := kL7.cell 12
      have x13 := kL7.cell 13
      have x14 := kL7.cell 14
      go_wp2_with fail
      refine HTG.out.mono ?_
      rintro e w7 ⟨rfl, hb8⟩
      clear x0 x1 x2 x3 x4 x5 x6 x7 x8 x9 x10 x11 x12 x13 x14 p0 p1 s0 s1 s2 s3 s4 HTG kL7
      have hfi := HFI1.out
      replace hti := hti.out
      have hV := own_all hV hb8
      have hU := own_all hU hb8
      have kR := kR.all hb8
      have hb7 := hb7.trans (hb8.mono hb7.size)
      clear hb8
      have HFS : Hid (fillStep p.er base i (bs, fl) r = if (targetA p.er base r).2 = 6 ∨ (targetA p.er base r).2 = 7 then (bs, fl)
          else if (placeOf p.er base i r).2 ≠ 0 then (bs, fl ++ [⟨(placeOf p.er base i r).2, ⟨#[]⟩, i, r.at_⟩])
          else ((putRes bs r.at_ r.kind (placeOf p.er base i r).1).1, fl)) := rfl
      have HPL : Hid (placeOf p.er base i r = if (targetA p.er base r).2 = 0 then valueRes r.kind (adrOf p.er.frs base i + r.at_) (targetA p.er base r).1 r.add else (0, (targetA p.er base r).2)) := rfl
      obtain ⟨⟨tg, te⟩, ht⟩ : ∃ t, targetA p.er base r = t := ⟨_, rfl⟩
      rw [ht] at hti HFS HPL ⊢
      dsimp only at hti HFS HPL ⊢
      clear ht
      rcases hti with ⟨ht0, ht1, ht2⟩ | ht6 | ht7 | ht8
      · subst ht0
        obtain ⟨⟨n, e'⟩, hv⟩ : ∃ t, valueRes r.kind (adrOf p.er.frs base i + r.at_) tg r.add = t := ⟨_, rfl⟩
        have HP2 : Hid (placeOf p.er base i r = (n, e')) := by show _ = _; rw [HPL.out, if_pos rfl, hv]
        have a0 := hfi.at0
        have a1 := hfi.at1
        have hww := hfi.wide
        have HFI2 := Lib.hid hfi
        obtain ⟨ad, hadv⟩ : ∃ a, a = adrOf p.er.frs base i := ⟨_, rfl⟩
        rw [← hadv] at hv had
        have HVA : Hid (∀ W, Calls Try.prog 58 #[.int .i64 r.kind, .int .i64 ((ad : Int) + r.at_), .int .i64 tg, .int .i64 r.add] W fun e w' => e = .returned (.tuple #[.int .i64 n, .int .i64 e']) ∧ w' = W) := by
          intro W
          have := value_any r.kind ((ad : Int) + r.at_) tg r.add W (by omega) (by omega)
          rw [hv] at this
          exact this.mono fun _ _ ⟨he, hw⟩ => ⟨he, hw.symm⟩
        have s0 := kR.cell 0
        have s1 := kR.cell 1
        have s4 := kR.cell 4
        have x0 := (kL.all hb7).cell 0
        rw [E1.out] at x0
        have d1 := ((hlf.below hb7)).cell1 HFK.out
        rw [← hadv] at d1
        have hr64 : r.at_ ≤ 64 := by rcases hww with e | e <;> omega
        have hwr : IntKind.i64.wrap ((ad : Int) + r.at_) = (ad : Int) + r.at_ := IntWalk.i64_in _ (by omega)
        clear hv hadv hfi a1 hww HPL
        go_upto_region 11 with (fail)
        go_quiet ((go_at_call 58; exact Calls.quiet_of_same (HVA.out _)))
        obtain ⟨w7, hw7⟩ : ∃ W, W = w7.drewN nq := ⟨_, rfl⟩
        replace hV : w7.ownsRow W1.heap.size 5 1 (.slice A3 bs.length c3) bs.length (bytesV bs) := by rw [hw7]; exact hV
        replace hU : w7.ownsRow W1.heap.size 114 4 (.slice A4 fl.length c4) fl.length (flxsV fl) := by rw [hw7]; exact hU
        replace kR : Blk w7 gR 119 #[.int .i64 r.at_, .int .i64 r.kind, .string r.name, .int .i64 r.frag, .int .i64 r.add] := by rw [hw7]; exact kR.drewN nq
        replace hb7 : Below W1.heap.size W1 w7 := by rw [hw7]; exact below_drewN hb7 nq
        rw [← hw7]
        clear hw7 s0 s1 s4 x0 d1 hwr HVA a0 hr64 ht1 ht2
        have s0 := kR.cell 0
        by_cases he0 : e' = 0
        · subst he0
          have HO : Hid (((putRes bs r.at_ r.kind n).1, fl) = (x.f.rs.take (k + 1)).foldl (fillStep p.er base i) (x.f.bs, [])) := by show _ = _; rw [HNX.out, HFS.out, HP2.out]; rfl
          have s1 := kR.cell 1
          clear HNX HFS HP2
          go_wp2_with fail
          refine (put_own r.kind r.at_ n A3 c3 bs w7 (Reads.of_own hV) (by rw [HBL.out]; omega)).mono ?_
          rintro e w8 ⟨v8, rfl, hown8, hb8⟩
          replace hown8 := hown8.mono hb7.size
          have hU8 := own_all hU hb8
          have hb9 := hb7.trans (hb8.mono hb7.size)
          obtain ⟨⟨bs', e9⟩, hp⟩ : ∃ t, putRes bs r.at_ r.kind n = t := ⟨_, rfl⟩
          rw [hp] at hown8 HO ⊢
          clear hp hb8 hU hV
          go_wp2_with fail
          go_roundw
          case rel => exact ⟨k + 1, bs', fl, by omega, by go_num, HO, by omega, hown8, hU8, hb9⟩
          case measure => simp [intOf]; omega
        · have HO : Hid ((bs, fl ++ [⟨e', ⟨#[]⟩, i, r.at_⟩]) = (x.f.rs.take (k + 1)).foldl (fillStep p.er base i) (x.f.bs, [])) := by show _ = _; rw [HNX.out, HFS.out, HP2.out, if_neg (by simp), if_pos he0]
          have q0 : (e' != 0) = true := by simpa using he0
          clear HNX HFS HP2 he0
          (go_wp2_with (at_builtin; refine wpList_append_own _ rfl (.tmp 65) (.tmp 71) 88 rfl W1.heap.size 114 i0 _ 4 40 Try.underlying88 hi0 hz0 hz1 hz2 rfl (by decide) _ _ _ rfl (hU.alloc _) ⟨w7.heap.size, 0, none⟩ 1 1 [.int .i64 (e'), .string ⟨#[]⟩, .int .i64 (i : Nat), .int .i64 r.at_] rfl rfl ?c1 ?c2 ?c3 ?c4 ?c5 ?_; (case c1 => exact fun j u hu => cells_new j u hu); (case c2 => exact flx_one ⟨e', ⟨#[]⟩, i, r.at_⟩); (case c3 => unfold maxLen; omega); (case c4 => omega); (case c5 => have := hb7.size; simp; omega); intro v8 w8 hown8 hg8 _; have hO8 : w8.ownsRow W1.heap.size 114 4 v8 (fl ++ [(⟨e', ⟨#[]⟩, i, r.at_⟩ : Flx)]).length (flxsV (fl ++ [⟨e', ⟨#[]⟩, i, r.at_⟩])) := (by rw [flxsV_append, List.length_append]; exact hown8); have hb8 : Below W1.heap.size W1 w8 := (hb7.alloc hb7.size _).grown hg8 (by have := hb7.size; simp; omega) (fun g hg' => (hU.lt g hg').1); have hV8 := own_kept (hV.alloc _) hg8 (own_row_ne hV hU (by decide)); clear hg8 hown8))
          go_roundw
          case rel => exact ⟨k + 1, bs, fl ++ [⟨e', ⟨#[]⟩, i, r.at_⟩], by omega, by go_num, HO, by rw [List.length_append]; show fl.length + 1 ≤ _; omega, hV8, hO8, hb8⟩
          case measure => simp [intOf]; omega
      · subst ht6
        have HO : Hid ((bs, fl) = (x.f.rs.take (k + 1)).foldl (fillStep p.er base i) (x.f.bs, [])) := by show _ = _; rw [HNX.out, HFS.out, if_pos (.inl rfl)]
        go_wp2_with fail
        go_roundw
        case rel => exact ⟨k + 1, bs, fl, by omega, by go_num, HO, by omega, hV, hU, hb7⟩
        case measure => simp [intOf]; omega
      · subst ht7
        have HO : Hid ((bs, fl) = (x.f.rs.take (k + 1)).foldl (fillStep p.er base i) (x.f.bs, [])) := by show _ = _; rw [HNX.out, HFS.out, if_pos (.inr rfl)]
        go_wp2_with fail
        go_roundw
        case rel => exact ⟨k + 1, bs, fl, by omega, by go_num, HO, by omega, hV, hU, hb7⟩
        case measure => simp [intOf]; omega
      · subst ht8
        have HO : Hid ((bs, fl ++ [⟨8, ⟨#[]⟩, i, r.at_⟩]) = (x.f.rs.take (k + 1)).foldl (fillStep p.er base i) (x.f.bs, [])) := by show _ = _; rw [HNX.out, HFS.out, HPL.out]; rfl
        have s0 := kR.cell 0
        (go_wp2_with (at_builtin; refine wpList_append_own _ rfl (.tmp 65) (.tmp 71) 88 rfl W1.heap.size 114 i0 _ 4 40 Try.underlying88 hi0 hz0 hz1 hz2 rfl (by decide) _ _ _ rfl (hU.alloc _) ⟨w7.heap.size, 0, none⟩ 1 1 [.int .i64 (8), .string ⟨#[]⟩, .int .i64 (i : Nat), .int .i64 r.at_] rfl rfl ?c1 ?c2 ?c3 ?c4 ?c5 ?_; (case c1 => exact fun j u hu => cells_new j u hu); (case c2 => exact flx_one ⟨8, ⟨#[]⟩, i, r.at_⟩); (case c3 => unfold maxLen; omega); (case c4 => omega); (case c5 => have := hb7.size; simp; omega); intro v8 w8 hown8 hg8 _; have hO8 : w8.ownsRow W1.heap.size 114 4 v8 (fl ++ [(⟨8, ⟨#[]⟩, i, r.at_⟩ : Flx)]).length (flxsV (fl ++ [⟨8, ⟨#[]⟩, i, r.at_⟩])) := (by rw [flxsV_append, List.length_append]; exact hown8); have hb8 : Below W1.heap.size W1 w8 := (hb7.alloc hb7.size _).grown hg8 (by have := hb7.size; simp; omega) (fun g hg' => (hU.lt g hg').1); have hV8 := own_kept (hV.alloc _) hg8 (own_row_ne hV hU (by decide)); clear hg8 hown8))
        go_roundw
        case rel => exact ⟨k + 1, bs, fl ++ [⟨8, ⟨#[]⟩, i, r.at_⟩], by omega, by go_num, HO, by rw [List.length_append]; show fl.length + 1 ≤ _; omega, hV8, hO8, hb8⟩
        case measure => simp [intOf]; omega
    · obtain rfl : k = x.f.rs.length := by omega
      have HO : Hid ((bs, fl) = filledP p.er base i) := by
        show _ = _
        have := hst.out
        rw [List.take_length] at this
        rw [HFP.out, this]
        rfl
      go_wp2
      go_ret2
      refine ⟨_, _, rfl, ?_, ?_, hb.trans (hbr.mono hb.size)⟩
      · rw [← HO.out]; exact hV.mono hb.size
      · rw [← HO.out]; exact hU.mono hb.size
end Go.Proofs.Ytbhjdinjoonngaa

/- link.Link's closures; slices.ContainsFunc at faults. -/
namespace Go.Proofs.Ytbhjdinjoonngaa
open Go.RowKit

theorem flx_get {w : World} {B : Nat} {A : Option Addr} {l : List Flx} (h : Reads w B 4 A l.length (flxsV l)) {i : Nat} {x : Flx} (hx : l[i]? = some x) :
    ∃ b off, A = some ⟨b, off, none⟩ ∧ b < B ∧ w.cell? ⟨b, off + i * 4, none⟩ = some (.int .i64 x.e) ∧ w.cell? ⟨b, off + i * 4 + 1, none⟩ = some (.string x.name) ∧ w.cell? ⟨b, off + i * 4 + 2, none⟩ = some (.int .i64 x.frag) ∧ w.cell? ⟨b, off + i * 4 + 3, none⟩ = some (.int .i64 x.at_) := by
  obtain ⟨b, off, e, hb, hc⟩ := cells_get (cells := Flx.cells) (fun _ => rfl) h hx
  exact ⟨b, off, e, hb, hc 0 _ rfl, hc 1 _ rfl, hc 2 _ rfl, hc 3 _ rfl⟩
theorem link1_any (n : Int) (w : World) : Calls Try.prog 97 #[.int .i64 n] w fun e w' => e = .returned (.tuple #[.agg #[.int .i64 0, .slice none 0 0], .slice none 0 0, .int .i64 n]) ∧ Below w.heap.size w w' := by
  go_enter Try.func97, Try.ntmps97
  go_wp2
  refine bodyPost_ret (v := .tuple #[.agg #[.int .i64 0, .slice none 0 0], .slice none 0 0, .int .i64 n]) (by simp [results, Try.results97, go_sem]) rfl ⟨rfl, by (repeat' (first | exact Below.refl _ _ | assumption | refine Below.setCell ?_ (by first | omega | exact Below.size (by assumption) | (simp; done) | (simp; omega)) _ | refine Below.alloc ?_ (by first | omega | exact Below.size (by assumption) | (simp; done) | (simp; omega)) _ | refine Below.drew ?_ | refine below_drewN ?_ _))⟩
theorem link2_any (x : Flx) (s : ByteArray) (gE : Nat) (w : World) (kE : Blk w gE 9 #[.string s]) :
    Calls Try.prog 99 #[.agg #[.int .i64 x.e, .string x.name, .int .i64 x.frag, .int .i64 x.at_], .pointer (some ⟨gE, 0, none⟩)] w fun e w' => e = .returned (.bool (x.name.toList == s.toList)) ∧ Below w.heap.size w w' := by
  have kX := kE.alloc (.cells #[.int .i64 x.e, .string x.name, .int .i64 x.frag, .int .i64 x.at_] 114)
  have hne : w.heap.size ≠ gE := Nat.ne_of_gt kE.lt
  have c0 := kX.cell 0
  have c1 := kE.cell 0
  clear kX
  go_enter Try.func99, Try.ntmps99
  go_wp2
  go_ret
  exact ⟨rfl, by (repeat' (first | exact Below.refl _ _ | assumption | refine Below.setCell ?_ (by first | omega | exact Below.size (by assumption) | (simp; done) | (simp; omega)) _ | refine Below.alloc ?_ (by first | omega | exact Below.size (by assumption) | (simp; done) | (simp; omega)) _ | refine Below.drew ?_ | refine below_drewN ?_ _))⟩

set_option maxHeartbeats 8000000 in
set_option maxRecDepth 100000 in
theorem idxFFlt_any (A : Option Addr) (c : Nat) (l : List Flx) (pr : Flx → Bool) (gE : Nat) (w : World) (hR : Reads w w.heap.size 4 A l.length (flxsV l)) (hlm : l.length ≤ 9223372036854775807)
    (HL : ∀ x ∈ l, ∀ W, Below w.heap.size w W → Calls Try.prog 99 #[.agg #[.int .i64 x.e, .string x.name, .int .i64 x.frag, .int .i64 x.at_], .pointer (some ⟨gE, 0, none⟩)] W fun e w' => e = .returned (.bool (pr x)) ∧ Below W.heap.size W w') :
    Calls Try.prog 137 #[.slice A l.length c, .func (.func 99) #[] #[.pointer (some ⟨gE, 0, none⟩)]] w
      fun e w' => (∃ n : Int, e = .returned (.int .i64 n) ∧ decide (0 ≤ n) = l.any pr) ∧ Below w.heap.size w w' := by
  have HL := Lib.hid HL
  go_enter Try.func137, Try.ntmps137
  go_wp2_with fail
  go_loopw [8] (fun i wr => ∃ k : Nat, k ≤ l.length ∧ i = .int .i64 k ∧ Hid ((l.take k).any pr = false) ∧ Below w.heap.size w wr) (fun i _ => l.length - (intOf i).toNat)
  case atStart => exact ⟨0, Nat.zero_le _, rfl, Lib.hid (by simp), Below.refl _ _⟩
  case round =>
    obtain ⟨k, hk, rfl, hno, hb⟩ := hrel
    by_cases hlt : k < l.length
    · obtain ⟨x, hx⟩ : ∃ x, l[k]? = some x := ⟨_, List.getElem?_eq_getElem hlt⟩
      obtain ⟨b, off, rfl, bl, c0, c1, c2, c3⟩ := flx_get (hR.below hb) hx
      have HCx := HL.out x (List.mem_of_getElem? hx) wr hb
      have HY : Hid ((l.take (k + 1)).any pr = pr x) := by show _ = _; rw [List.take_add_one, hx, List.any_append, hno.out]; simp
      have HM : Hid (pr x = true → l.any pr = true) := fun h => List.any_eq_true.2 ⟨x, List.mem_of_getElem? hx, h⟩
      obtain ⟨t, ht⟩ : ∃ t, pr x = t := ⟨_, rfl⟩
      rw [ht] at HCx HY HM
      replace HCx := Lib.hid HCx
      clear hx ht
      cases t with
      | true =>
        have HM2 := Lib.hid (HM.out rfl)
        clear HM
        go_wp2_with (go_at_call 99; refine HCx.out.mono ?_; rintro e w' ⟨rfl, hb2⟩)
        go_ret
        exact ⟨⟨k, rfl, by rw [HM2.out]; exact decide_eq_true (by omega)⟩, hb.trans (hb2.mono hb.size)⟩
      | false =>
        go_wp2_with (go_at_call 99; refine HCx.out.mono ?_; rintro e w' ⟨rfl, hb2⟩)
        go_roundw
        case rel => exact ⟨k + 1, by omega, by go_num, HY, hb.trans (hb2.mono hb.size)⟩
        case measure => simp [intOf]; omega
    · obtain rfl : k = l.length := by omega
      go_wp2
      go_ret
      exact ⟨⟨-1, rfl, by have := hno.out; rw [List.take_length] at this; rw [this]; rfl⟩, hb⟩
set_option maxHeartbeats 8000000 in
theorem hasFFlt_any (A : Option Addr) (c : Nat) (l : List Flx) (pr : Flx → Bool) (gE : Nat) (w : World) (hR : Reads w w.heap.size 4 A l.length (flxsV l)) (hlm : l.length ≤ 9223372036854775807)
    (HL : ∀ x ∈ l, ∀ W, Below w.heap.size w W → Calls Try.prog 99 #[.agg #[.int .i64 x.e, .string x.name, .int .i64 x.frag, .int .i64 x.at_], .pointer (some ⟨gE, 0, none⟩)] W fun e w' => e = .returned (.bool (pr x)) ∧ Below W.heap.size W w') :
    Calls Try.prog 98 #[.slice A l.length c, .func (.func 99) #[] #[.pointer (some ⟨gE, 0, none⟩)]] w
      fun e w' => e = .returned (.bool (l.any pr)) ∧ Below w.heap.size w w' := by
  have HI := Lib.hid (idxFFlt_any A c l pr gE w hR hlm HL)
  clear HL
  go_enter Try.func98, Try.ntmps98
  go_wp2_with fail
  refine HI.out.mono ?_
  rintro e w1 ⟨⟨n, rfl, hn⟩, hb⟩
  replace hn := Lib.hid hn
  go_wp2
  go_ret
  exact ⟨by rw [← hn.out]; rfl, hb⟩
end Go.Proofs.Ytbhjdinjoonngaa

/- Layouts: bounds, cells by number; where there is none. No program in sight. -/
namespace Go.Proofs.Ytbhjdinjoonngaa
open Go.RowKit

theorem toN_moved {p : Prt} (hc : ckPart p = 0) (base m : Nat) (hm : 16 ∣ m) (s : Nat) : toN p (base + m) s = toN p base s + m := by
  unfold toN
  split
  · rw [layEnd_moved hc _ _ hm]
  · exact secEnd_moved (lays_of hc) _ _ hm _
theorem secFrom_le {p : Prt} {base s : Nat} (hc : ckPart p = 0) (h : base < 65536) (hs1 : 1 ≤ s) (hs : s ≤ 5) : secFrom p.frs base s ≤ 200000 := posAt_le (lays_of hc) hs1 hs (Nat.zero_le _) h
theorem toN_le {p : Prt} {base s : Nat} (hc : ckPart p = 0) (h : layE p base = 0) (hs : s ≤ 5) : toN p base s ≤ 200000 := by
  have h1 := layE_zero h
  unfold toN
  split
  · have := h1.2.2.2
    have e : (base : Int).toNat = base := by omega
    rw [e] at this
    omega
  · have := secEnd_le (lays_of hc) base s
    omega
theorem cs_le {p : Prt} {base k c : Nat} (h : layE p base = 0) (hk : (layEnd p base).cs[k]? = some c) : c ≤ 65536 := by
  obtain ⟨hc, _, _, h3⟩ := layE_zero h
  have e : (base : Int).toNat = base := by omega
  rw [e] at h3
  have hl := lay_len hc base
  obtain ⟨hk1, hv⟩ := List.getElem?_eq_some_iff.1 hk
  have hk2 : k < (layEnd p base).ns.length := by omega
  obtain ⟨d, _, _, _, _, h5, _⟩ := (com_at (comOk_of hc) _ (definedP p)).each k ((layEnd p base).ns[k]'hk2) c (List.getElem?_eq_getElem hk2) hk
  have e2 : (comAt p.dfs (secEnd p.frs base 5) (definedP p)).at_ = (layEnd p base).at_ := rfl
  omega
theorem lay_cells_bad {p : Prt} {base : Int} {l : LyM} (hr : l.r = layR p base) (h : layE p base ≠ 0) : l.cells.toArray = #[.slice (l).fa 0 (l).fc, .slice (l).na 0 (l).nc, .slice (l).ca 0 (l).cc, .int .i64 0, .int .i64 0, .int .i64 0, .int .i64 0, .int .i64 0, .int .i64 0, .int .i64 0, .int .i64 0, .int .i64 0, .int .i64 0, .int .i64 0, .int .i64 0] := by
  unfold layR at hr
  rw [if_neg h] at hr
  unfold LyM.cells
  rw [hr]
  rfl
theorem lyx_from {v1 v2 v3 : Value} {f t : Nat → Nat} {s : Nat} (h1 : 1 ≤ s) (h5 : s ≤ 5) : (#[v1, v2, v3, .int .i64 0, .int .i64 (f 1 : Nat), .int .i64 (f 2 : Nat), .int .i64 (f 3 : Nat), .int .i64 (f 4 : Nat), .int .i64 (f 5 : Nat), .int .i64 0, .int .i64 (t 1 : Nat), .int .i64 (t 2 : Nat), .int .i64 (t 3 : Nat), .int .i64 (t 4 : Nat), .int .i64 (t 5 : Nat)] : Array Value)[3 + s]? = some (.int .i64 (f s : Nat)) := by
  match s, h1, h5 with
  | 1, _, _ => rfl
  | 2, _, _ => rfl
  | 3, _, _ => rfl
  | 4, _, _ => rfl
  | 5, _, _ => rfl
theorem lyx_to {v1 v2 v3 : Value} {f t : Nat → Nat} {s : Nat} (h1 : 1 ≤ s) (h5 : s ≤ 5) : (#[v1, v2, v3, .int .i64 0, .int .i64 (f 1 : Nat), .int .i64 (f 2 : Nat), .int .i64 (f 3 : Nat), .int .i64 (f 4 : Nat), .int .i64 (f 5 : Nat), .int .i64 0, .int .i64 (t 1 : Nat), .int .i64 (t 2 : Nat), .int .i64 (t 3 : Nat), .int .i64 (t 4 : Nat), .int .i64 (t 5 : Nat)] : Array Value)[9 + s]? = some (.int .i64 (t s : Nat)) := by
  match s, h1, h5 with
  | 1, _, _ => rfl
  | 2, _, _ => rfl
  | 3, _, _ => rfl
  | 4, _, _ => rfl
  | 5, _, _ => rfl
end Go.Proofs.Ytbhjdinjoonngaa

/- slices.Index, Contains over ints; ropewalkref.IsAlign. -/
namespace Go.Proofs.Ytbhjdinjoonngaa
open Go.RowKit

/-- The first place of a number in a list, or -1. -/
def indexI (s : Int) (l : List Int) : Int := match l.findIdx? (fun t => t == s) with
  | some k => k
  | none => -1
theorem indexI_in {s : Int} {l : List Int} : decide (0 ≤ indexI s l) = decide (s ∈ l) := by
  unfold indexI
  rcases h : l.findIdx? (fun t => t == s) with _ | k
  · have : s ∉ l := fun hm => by
      have := List.findIdx?_eq_none_iff.1 h s hm
      simp at this
    simp [this]
  · have : s ∈ l := by
      rw [List.findIdx?_eq_some_iff_getElem] at h
      obtain ⟨hk, he, _⟩ := h
      have : l[k] = s := by simpa using he
      rw [← this]; exact List.getElem_mem hk
    simp [this]
theorem indexI_at {s : Int} {l : List Int} {k : Nat} (hn : ∀ x ∈ l.take k, x ≠ s) (hk : l[k]? = some s) : indexI s l = k := by
  obtain ⟨hlt, hv⟩ := List.getElem?_eq_some_iff.1 hk
  have : l.findIdx? (fun t => t == s) = some k := by
    rw [List.findIdx?_eq_some_iff_getElem]
    refine ⟨hlt, by simp [hv], fun j hj => ?_⟩
    have := hn l[j] (by rw [List.mem_take_iff_getElem]; exact ⟨j, by omega, rfl⟩)
    simpa using this
  unfold indexI
  rw [this]
theorem indexI_no {s : Int} {l : List Int} (hn : ∀ x ∈ l, x ≠ s) : indexI s l = -1 := by
  have : l.findIdx? (fun t => t == s) = none := List.findIdx?_eq_none_iff.2 fun x hx => by simpa using hn x hx
  unfold indexI
  rw [this]

set_option maxHeartbeats 1000000 in
theorem indexItr_any (A : Option Addr) (c : Nat) (l : List Int) (s : Int) (w : World) (h : Reads w w.heap.size 1 A l.length (intsV l)) (hm : l.length ≤ 9223372036854775807) :
    Calls Try.prog 106 #[.slice A l.length c, .int .i64 s] w fun e w' => e = .returned (.int .i64 (indexI s l)) ∧ w = w' := by
  go_enter Try.func106, Try.ntmps106
  go_wp2
  go_loop [8] (fun i => ∃ k : Nat, k ≤ l.length ∧ i = .int .i64 k ∧ Hid (∀ x ∈ l.take k, x ≠ s)) (fun i => l.length - (intOf i).toNat)
  case atStart => exact ⟨0, Nat.zero_le _, rfl, Lib.hid (by simp)⟩
  case round =>
    obtain ⟨k, hk, rfl, hn⟩ := hrel
    by_cases hlt : k < l.length
    · obtain ⟨b, off, u, rfl, _, hu, hc⟩ := h.at_ hlt
      obtain ⟨x, hx⟩ : ∃ x, l[k]? = some x := ⟨_, List.getElem?_eq_getElem hlt⟩
      rw [show (intsV l)[k]? = some (intV x) by simp [intsV, hx]] at hu
      cases hu
      unfold intV at hc
      have HX := Lib.hid hx
      clear hx
      by_cases hxs : s = x
      · have ht : (s == x) = true := by rw [hxs]; simp
        subst hxs
        have HI := Lib.hid (indexI_at hn.out HX.out)
        go_wp2
        go_ret
        exact ⟨ret_val (by rw [HI.out]; rfl), rfl⟩
      · have ht : (s == x) = false := beq_eq_false_iff_ne.2 hxs
        have HXS := Lib.hid hxs
        clear hxs
        go_wp2
        go_round
        case rel =>
          refine ⟨k + 1, by omega, by go_num, Lib.hid ?_⟩
          rw [List.take_add_one, HX.out]
          intro y hy
          rcases List.mem_append.1 hy with hy | hy
          · exact hn.out y hy
          · obtain rfl : y = x := by simpa using hy
            exact fun e => HXS.out e.symm
        case measure => simp [intOf]; omega
    · obtain rfl : k = l.length := by omega
      have HI := Lib.hid (indexI_no (s := s) (l := l) (by have := hn.out; rwa [List.take_length] at this))
      go_wp2
      go_ret
      exact ⟨ret_val (by rw [HI.out]; rfl), rfl⟩

set_option maxHeartbeats 1000000 in
theorem containsInt_any (A : Option Addr) (c : Nat) (l : List Int) (s : Int) (w : World) (h : Reads w w.heap.size 1 A l.length (intsV l)) (hm : l.length ≤ 9223372036854775807) :
    Calls Try.prog 49 #[.slice A l.length c, .int .i64 s] w fun e w' => e = .returned (.bool (decide (s ∈ l))) ∧ w = w' := by
  obtain ⟨n, hn⟩ : ∃ n, indexI s l = n := ⟨_, rfl⟩
  have HN := Lib.hid (indexI_in (s := s) (l := l))
  have HI := indexItr_any A c l s w h hm
  rw [hn] at HN HI
  clear hn
  go_enter Try.func49, Try.ntmps49
  go_wp2_with fail
  refine HI.mono ?_
  rintro e w' ⟨rfl, rfl⟩
  go_wp2
  go_ret
  exact ⟨ret_val (by rw [← HN.out]; rfl), rfl⟩


end Go.Proofs.Ytbhjdinjoonngaa

/- link.segment: what it computes. -/
namespace Go.Proofs.Ytbhjdinjoonngaa
open Go.RowKit

/-- Bytes, and where they lie. -/
structure BsM where
  a : Option Addr
  c : Nat
  bs : List UInt8
def BsM.v (x : BsM) : Value := .slice x.a x.bs.length x.c
def bssV (l : List BsM) : List Value := l.map BsM.v
structure BssAt (w : World) (B : Nat) (A : Option Addr) (l : List BsM) : Prop where
  row : Reads w B 1 A l.length (bssV l)
  each : ∀ x ∈ l, Reads w B 1 x.a x.bs.length (bytesV x.bs)
theorem BssAt.keep {w w' : World} {B B' : Nat} {A : Option Addr} {l : List BsM} (h : BssAt w B A l) (hb : Below B w w') (hB : B ≤ B') : BssAt w' B' A l :=
  ⟨(h.row.below hb).more hB, fun x hx => ((h.each x hx).below hb).more hB⟩
theorem bs_get {w : World} {B : Nat} {A : Option Addr} {l : List BsM} (h : BssAt w B A l) {i : Nat} {x : BsM} (hx : l[i]? = some x) :
    ∃ b off, A = some ⟨b, off, none⟩ ∧ b < B ∧ w.cell? ⟨b, off + i, none⟩ = some (.slice x.a x.bs.length x.c) := by
  have hl := (List.getElem?_eq_some_iff.1 hx).1
  obtain ⟨b, off, e, hb, hc⟩ := h.row.2 (by omega)
  exact ⟨b, off, e, hb, hc i _ (by simp [bssV, hx, BsM.v])⟩
theorem make_bytes (n : Nat) (hn : n ≤ 1000000) (w : World) :
    (Instr.makeSlice 97 (.int .i64 (n : Int)) (.int .i64 (n : Int))).run Try.prog w = .ok (.slice (some ⟨w.heap.size, 0, none⟩) n n) (w.alloc (.cells (bytesV (List.replicate n 0)).toArray 5)) := by
  obtain ⟨i0, hi, hz0, hz1, hz2⟩ := info_parts Try.infoBytes
  have := run_make_one 97 5 i0 (.int .u8 0) Try.underlying97 hi hz0 hz1 rfl 1 hz2 n hn (by omega) w
  rw [this]
  simp [bytesV, byteV, List.map_const']
theorem layOver_splice {b c : List UInt8} {k : Nat} (h : k + c.length ≤ b.length) : bytesV (layOver b k c) = splice (bytesV b) k (bytesV c) := by
  unfold layOver splice bytesV
  rw [List.take_of_length_le (show c.length ≤ b.length - k by omega)]
  simp [List.map_append, List.map_take, List.map_drop]

def SegIs (w : World) (s : SgP) (e : Ending) (w' : World) : Prop :=
  ∃ A c, e = .returned (.agg #[.int .i64 (s.at_ : Nat), .slice A s.bs.length c, .int .i64 (s.zeros : Nat), .bool s.writes, .bool s.works]) ∧ w'.ownsRow w.heap.size 5 1 (.slice A s.bs.length c) s.bs.length (bytesV s.bs) ∧ Below w.heap.size w w'

/-- Which sections go together. -/
structure Trio (sects : List Int) (f la : Nat) : Prop where
  head : sects[0]? = some (f : Int)
  last : sects[sects.length - 1]? = some (la : Int)
  len : sects.length ≤ 2
  pos : 0 < sects.length
  f1 : 1 ≤ f
  fl : f ≤ la
  l5 : la ≤ 5
  mem : ∀ s ∈ sects, (f : Int) ≤ s ∧ s ≤ la
theorem trio_one : Trio [1] 1 1 := ⟨rfl, rfl, by simp, by simp, by omega, by omega, by omega, by simp⟩
theorem trio_two : Trio [2, 3] 2 3 := ⟨rfl, rfl, by simp, by simp, by omega, by omega, by omega, by simp⟩
theorem trio_three : Trio [4, 5] 4 5 := ⟨rfl, rfl, by simp, by simp, by omega, by omega, by omega, by simp⟩
theorem toN_up {p : Prt} {base : Nat} (h : layE p base = 0) : ∀ d s, 1 ≤ s → s + d ≤ 5 → toN p base s ≤ toN p base (s + d)
  | 0, _, _, _ => Nat.le_refl _
  | d + 1, s, h1, h2 => by
    have h3 := toN_up h d s h1 (by omega)
    obtain ⟨_, a, b, _⟩ := sec_row h (s := s + d + 1) (by omega) (by omega)
    rw [show s + d + 1 - 1 = s + d by omega] at a
    rw [show s + (d + 1) = s + d + 1 by omega]
    omega
theorem from_up {p : Prt} {base : Nat} (h : layE p base = 0) {f s : Nat} (h1 : 1 ≤ f) (h2 : f ≤ s) (h5 : s ≤ 5) : secFrom p.frs base f ≤ secFrom p.frs base s := by
  rcases Nat.lt_or_ge f s with h3 | h3
  · obtain ⟨_, _, a, _⟩ := sec_row h h1 (show f ≤ 5 by omega)
    obtain ⟨_, b, _⟩ := sec_row h (show 1 ≤ s by omega) h5
    have := toN_up h (s - 1 - f) f h1 (by omega)
    rw [show f + (s - 1 - f) = s - 1 by omega] at this
    omega
  · obtain rfl : f = s := by omega
    exact Nat.le_refl _
/-- The end of a segment's bytes. -/
def segEnd (p : Prt) (base la : Nat) : Nat := if la = 5 then toN p base 4 else toN p base la
theorem seg_into {p : Prt} {base : Nat} (h : layE p base = 0) {sects : List Int} {f la : Nat} (ht : Trio sects f la) (i : Nat) (g : Frg) (hg : Into p sects i g) :
    secFrom p.frs base f ≤ adrOf p.frs base i ∧ adrOf p.frs base i + g.ln ≤ segEnd p base la := by
  obtain ⟨hg1, hg5, hgm⟩ := hg
  have ha := adr_le h hg1
  have hm := ht.mem _ hgm
  have h1 := ht.f1
  have h5 := ht.l5
  have h2 := from_up h h1 (show f ≤ g.sect.toNat by omega) (by omega)
  refine ⟨by omega, ?_⟩
  unfold segEnd
  split
  · rename_i h6
    have := toN_up h (4 - g.sect.toNat) g.sect.toNat (by omega) (by omega)
    rw [show g.sect.toNat + (4 - g.sect.toNat) = 4 by omega] at this
    omega
  · have := toN_up h (la - g.sect.toNat) g.sect.toNat (by omega) (by omega)
    rw [show g.sect.toNat + (la - g.sect.toNat) = la by omega] at this
    omega
theorem seg_order {p : Prt} {base : Nat} (h : layE p base = 0) {sects : List Int} {f la : Nat} (ht : Trio sects f la) (hx : la = 5 → f ≤ 4) : secFrom p.frs base f ≤ segEnd p base la ∧ segEnd p base la ≤ toN p base la ∧ toN p base la ≤ 65536 := by
  have h1 := ht.f1
  have h5 := ht.l5
  have hfl := ht.fl
  obtain ⟨_, _, a, _⟩ := sec_row h h1 (show f ≤ 5 by omega)
  obtain ⟨_, _, _, b, _⟩ := sec_row h (show 1 ≤ la by omega) h5
  unfold segEnd
  split
  · rename_i h6
    have h7 := toN_up h (4 - f) f h1 (by have := hx h6; omega)
    rw [show f + (4 - f) = 4 by have := hx h6; omega] at h7
    have h8 := toN_up h 1 4 (by omega) (by omega)
    rw [h6] at b ⊢
    exact ⟨by omega, by simpa using h8, b⟩
  · have h7 := toN_up h (la - f) f h1 (by omega)
    rw [show f + (la - f) = la by omega] at h7
    exact ⟨by omega, Nat.le_refl _, b⟩
end Go.Proofs.Ytbhjdinjoonngaa

/- link.segment: what it computes. -/
namespace Go.Proofs.Ytbhjdinjoonngaa
open Go.RowKit

theorem reads_pos {w : World} {B n : Nat} {A : Option Addr} {xs : List Value} (h : Reads w B 1 A n xs) (h0 : 0 < xs.length) : ∃ ad, A = some ad ∧ ∀ j v, xs[j]? = some v → w.cell? (ad.add j) = some v := by
  obtain ⟨b, off, e, _, hc⟩ := h.2 (by have := h.1; omega)
  exact ⟨_, e, fun j v hv => by rw [add_none]; exact hc j v hv⟩
theorem Try.sizeByte : (Try.prog.info? 5).map (·.size) = some 1 := by kernel_rfl

set_option maxHeartbeats 20000000 in
set_option maxRecDepth 100000 in
theorem segment_any (p : PtM) (l : LyM) (base : Nat) (Aa : Option Addr) (ca : Nat) (all : List BsM) (sects : List Int) (f la : Nat) (As : Option Addr) (cs : Nat) (w : World) (h : p.At w w.heap.size) (hl : l.At w w.heap.size) (hr : l.r = layR p.er base) (h0 : layE p.er base = 0)
    (ha : BssAt w w.heap.size Aa all) (hal : all.map BsM.bs = (List.range p.frs.length).map fun i => (filledP p.er base i).1) (hs : Reads w w.heap.size 1 As sects.length (intsV sects)) (ht : Trio sects f la) (hx5 : la = 5 → f ≤ 4) :
    Calls Try.prog 101 #[.agg #[.slice p.fa p.frs.length p.fc, .slice p.da p.dfs.length p.dc], .agg #[(.slice l.fa p.frs.length l.fc), (.slice l.na (layEnd p.er base).ns.length l.nc), (.slice l.ca (layEnd p.er base).cs.length l.cc), (.int .i64 0), (.int .i64 (secFrom p.er.frs base 1 : Nat)), (.int .i64 (secFrom p.er.frs base 2 : Nat)), (.int .i64 (secFrom p.er.frs base 3 : Nat)), (.int .i64 (secFrom p.er.frs base 4 : Nat)), (.int .i64 (secFrom p.er.frs base 5 : Nat)), (.int .i64 0), (.int .i64 (toN p.er base 1 : Nat)), (.int .i64 (toN p.er base 2 : Nat)), (.int .i64 (toN p.er base 3 : Nat)), (.int .i64 (toN p.er base 4 : Nat)), (.int .i64 (toN p.er base 5 : Nat))], .slice Aa all.length ca, .slice As sects.length cs] w (SegIs w (segP p.er base f la sects)) := by
  have hc := (layE_zero h0).1
  have hsm := small_of hc
  have hf6 := hsm.fr
  have hlen : all.length = p.frs.length := by have := congrArg List.length hal; simpa using this
  obtain ⟨so1, so2, so3⟩ := seg_order h0 ht hx5
  have HIN := Lib.hid (seg_into h0 ht)
  have HSI := Lib.hid (seg_in (base := base) (at_ := secFrom p.er.frs base f) (end_ := segEnd p.er base la) hc (seg_into h0 ht))
  have HH0 := Lib.hid h0
  have HLL := Lib.hid hl
  have HC := Lib.hid hc
  have hlf := hl.fr
  rw [hr, layR_zero h0] at hlf
  dsimp only at hlf
  rw [show (layFr p.er base).length = p.frs.length by unfold layFr; simp [PtM.er]] at hlf
  have hF1 := ht.f1
  have hF5 := ht.l5
  have hFL := ht.fl
  have hS2 := ht.len
  have hS0 := ht.pos
  obtain ⟨bS, oS, eS, lS, cS⟩ := hs.2 hS0
  have cS0 := cS 0 (.int .i64 (f : Nat)) (by rw [intsV, List.getElem?_map, ht.head]; rfl)
  have cS1 := cS (sects.length - 1) (.int .i64 (la : Nat)) (by rw [intsV, List.getElem?_map, ht.last]; rfl)
  rw [Nat.add_zero] at cS0
  have kP := ((Blk.new w 44 #[.slice p.fa p.frs.length p.fc, .slice p.da p.dfs.length p.dc]).alloc (.cells #[(.slice l.fa p.frs.length l.fc), (.slice l.na (layEnd p.er base).ns.length l.nc), (.slice l.ca (layEnd p.er base).cs.length l.cc), (.int .i64 0), (.int .i64 (secFrom p.er.frs base 1 : Nat)), (.int .i64 (secFrom p.er.frs base 2 : Nat)), (.int .i64 (secFrom p.er.frs base 3 : Nat)), (.int .i64 (secFrom p.er.frs base 4 : Nat)), (.int .i64 (secFrom p.er.frs base 5 : Nat)), (.int .i64 0), (.int .i64 (toN p.er base 1 : Nat)), (.int .i64 (toN p.er base 2 : Nat)), (.int .i64 (toN p.er base 3 : Nat)), (.int .i64 (toN p.er base 4 : Nat)), (.int .i64 (toN p.er base 5 : Nat))] 93)).alloc (.cells #[.int .i64 0, .slice none 0 0, .int .i64 0, .bool false, .bool false] 106)
  have kL := (Blk.new' (w.alloc (.cells #[.slice (p).fa (p).frs.length (p).fc, .slice (p).da (p).dfs.length (p).dc] 44)) 93 #[(.slice l.fa p.frs.length l.fc), (.slice l.na (layEnd p.er base).ns.length l.nc), (.slice l.ca (layEnd p.er base).cs.length l.cc), (.int .i64 0), (.int .i64 (secFrom p.er.frs base 1 : Nat)), (.int .i64 (secFrom p.er.frs base 2 : Nat)), (.int .i64 (secFrom p.er.frs base 3 : Nat)), (.int .i64 (secFrom p.er.frs base 4 : Nat)), (.int .i64 (secFrom p.er.frs base 5 : Nat)), (.int .i64 0), (.int .i64 (toN p.er base 1 : Nat)), (.int .i64 (toN p.er base 2 : Nat)), (.int .i64 (toN p.er base 3 : Nat)), (.int .i64 (toN p.er base 4 : Nat)), (.int .i64 (toN p.er base 5 : Nat))] (g := w.heap.size + 1) (by simp)).alloc (.cells #[.int .i64 0, .slice none 0 0, .int .i64 0, .bool false, .bool false] 106)
  have kO := Blk.new' ((w.alloc (.cells #[.slice (p).fa (p).frs.length (p).fc, .slice (p).da (p).dfs.length (p).dc] 44)).alloc (.cells #[(.slice l.fa p.frs.length l.fc), (.slice l.na (layEnd p.er base).ns.length l.nc), (.slice l.ca (layEnd p.er base).cs.length l.cc), (.int .i64 0), (.int .i64 (secFrom p.er.frs base 1 : Nat)), (.int .i64 (secFrom p.er.frs base 2 : Nat)), (.int .i64 (secFrom p.er.frs base 3 : Nat)), (.int .i64 (secFrom p.er.frs base 4 : Nat)), (.int .i64 (secFrom p.er.frs base 5 : Nat)), (.int .i64 0), (.int .i64 (toN p.er base 1 : Nat)), (.int .i64 (toN p.er base 2 : Nat)), (.int .i64 (toN p.er base 3 : Nat)), (.int .i64 (toN p.er base 4 : Nat)), (.int .i64 (toN p.er base 5 : Nat))] 93)) 106 #[.int .i64 0, .slice none 0 0, .int .i64 0, .bool false, .bool false] (g := w.heap.size + 1 + 1) (by simp)
  have hb : Below w.heap.size w (((w.alloc (.cells #[.slice (p).fa (p).frs.length (p).fc, .slice (p).da (p).dfs.length (p).dc] 44)).alloc (.cells #[(.slice l.fa p.frs.length l.fc), (.slice l.na (layEnd p.er base).ns.length l.nc), (.slice l.ca (layEnd p.er base).cs.length l.cc), (.int .i64 0), (.int .i64 (secFrom p.er.frs base 1 : Nat)), (.int .i64 (secFrom p.er.frs base 2 : Nat)), (.int .i64 (secFrom p.er.frs base 3 : Nat)), (.int .i64 (secFrom p.er.frs base 4 : Nat)), (.int .i64 (secFrom p.er.frs base 5 : Nat)), (.int .i64 0), (.int .i64 (toN p.er base 1 : Nat)), (.int .i64 (toN p.er base 2 : Nat)), (.int .i64 (toN p.er base 3 : Nat)), (.int .i64 (toN p.er base 4 : Nat)), (.int .i64 (toN p.er base 5 : Nat))] 93)).alloc (.cells #[.int .i64 0, .slice none 0 0, .int .i64 0, .bool false, .bool false] 106)) := by (repeat' (first | exact Below.refl _ _ | assumption | refine Below.setCell ?_ (by first | omega | exact Below.size (by assumption) | (simp; done) | (simp; omega)) _ | refine Below.alloc ?_ (by first | omega | exact Below.size (by assumption) | (simp; done) | (simp; omega)) _ | refine Below.drew ?_ | refine below_drewN ?_ _))
  have h1 := h.all hb
  have hlf := (hlf.below hb).more hb.size
  have ha1 := ha.keep hb hb.size
  have hs1 := (hs.below hb).more hb.size
  have cS0 := (hb.cell (p := ⟨bS, oS, none⟩) lS).trans cS0
  have cS1 := (hb.cell (p := ⟨bS, oS + (sects.length - 1), none⟩) lS).trans cS1
  have HAL := Lib.hid hal
  have HLEN := Lib.hid hlen
  have HT := Lib.hid ht
  have HX5 := Lib.hid hx5
  have HES := Lib.hid eS
  rw [eS] at hs1
  have hsl : ((sects.length : Nat) : Int) - 1 = ((sects.length - 1 : Nat) : Int) := by omega
  have hwl : IntKind.i64.wrap (((sects.length : Nat) : Int) - 1) = ((sects.length - 1 : Nat) : Int) := by rw [hsl]; exact IntWalk.i64_in _ (by omega)
  clear h hl hr h0 hc hsm ha hal hs ht hx5 hlen cS
  rw [eS]
  clear eS
  go_enter Try.func101, Try.ntmps101
  go_upto_region 1 with (fail)
  obtain ⟨W0, hW0⟩ : ∃ W, W = ((w.alloc (.cells #[.slice (p).fa (p).frs.length (p).fc, .slice (p).da (p).dfs.length (p).dc] 44)).alloc (.cells #[(.slice l.fa p.frs.length l.fc), (.slice l.na (layEnd p.er base).ns.length l.nc), (.slice l.ca (layEnd p.er base).cs.length l.cc), (.int .i64 0), (.int .i64 (secFrom p.er.frs base 1 : Nat)), (.int .i64 (secFrom p.er.frs base 2 : Nat)), (.int .i64 (secFrom p.er.frs base 3 : Nat)), (.int .i64 (secFrom p.er.frs base 4 : Nat)), (.int .i64 (secFrom p.er.frs base 5 : Nat)), (.int .i64 0), (.int .i64 (toN p.er base 1 : Nat)), (.int .i64 (toN p.er base 2 : Nat)), (.int .i64 (toN p.er base 3 : Nat)), (.int .i64 (toN p.er base 4 : Nat)), (.int .i64 (toN p.er base 5 : Nat))] 93)).alloc (.cells #[.int .i64 0, .slice none 0 0, .int .i64 0, .bool false, .bool false] 106) := ⟨_, rfl⟩
  rw [← hW0] at kP kL kO hb h1 hlf ha1 hs1 cS0 cS1 ⊢
  obtain ⟨gO, hgO⟩ : ∃ g, g = w.heap.size + 1 + 1 := ⟨_, rfl⟩
  obtain ⟨gL, hgL⟩ : ∃ g, g = w.heap.size + 1 := ⟨_, rfl⟩
  have hgO2 : w.heap.size ≤ gO := by omega
  rw [← hgO] at kO ⊢
  rw [← hgL] at kL ⊢
  clear hW0 hgO hgL
  go_quiet (fail)
  obtain ⟨W1, hW1⟩ : ∃ W, W = W0.drewN nq := ⟨_, rfl⟩
  have hdr : Below W0.heap.size W0 W1 := by rw [hW1]; exact below_drewN (Below.refl _ _) nq
  rw [← hW1]
  replace kP := kP.all hdr
  replace kL := kL.all hdr
  replace kO := kO.all hdr
  replace h1 := h1.all hdr
  replace hlf := (hlf.below hdr).more hdr.size
  replace ha1 := ha1.keep hdr hdr.size
  replace hs1 := (hs1.below hdr).more hdr.size
  replace hb := hb.trans (hdr.mono hb.size)
  clear hW1 hdr cS0 cS1 hwl hsl
  obtain ⟨wb, hwb⟩ : ∃ b, ((f : Int) == 4) = b := ⟨_, rfl⟩
  obtain ⟨kb, hkb⟩ : ∃ b, ((f : Int) == 1) = b := ⟨_, rfl⟩
  have x3 := (kL.cell (3 + f)).trans (lyx_from hF1 (Nat.le_trans hFL hF5))
  go_upto_region 3 with (fail)
  have kS := Blk.new W1 106 #[.int .i64 (secFrom p.er.frs base f : Nat), .slice none 0 0, .int .i64 0, .bool wb, .bool kb]
  have hbx : Below W1.heap.size W1 (W1.alloc (.cells #[.int .i64 (secFrom p.er.frs base f : Nat), .slice none 0 0, .int .i64 0, .bool wb, .bool kb] 106)) := by (repeat' (first | exact Below.refl _ _ | assumption | refine Below.setCell ?_ (by first | omega | exact Below.size (by assumption) | (simp; done) | (simp; omega)) _ | refine Below.alloc ?_ (by first | omega | exact Below.size (by assumption) | (simp; done) | (simp; omega)) _ | refine Below.drew ?_ | refine below_drewN ?_ _))
  obtain ⟨gS, hgS⟩ : ∃ g, g = W1.heap.size := ⟨_, rfl⟩
  have hgS1 : W1.heap.size ≤ gS := by omega
  obtain ⟨W2, hW2⟩ : ∃ W, W = W1.alloc (.cells #[.int .i64 (secFrom p.er.frs base f : Nat), .slice none 0 0, .int .i64 0, .bool wb, .bool kb] 106) := ⟨_, rfl⟩
  rw [← hgS] at kS ⊢
  rw [← hW2] at kS hbx ⊢
  have hgS2 := kS.lt
  clear hW2 hgS x3
  have x9 := ((kL.all hbx).cell (9 + la)).trans (lyx_to (Nat.le_trans hF1 hFL) hF5)
  go_upto_region 4 with (fail)
  clear x9
  obtain ⟨en, hen⟩ : ∃ e, e = segEnd p.er base la := ⟨_, rfl⟩
  obtain ⟨zs, hzs⟩ : ∃ e, e = (if la = 5 then toN p.er base 5 - toN p.er base 4 else 0) := ⟨_, rfl⟩
  have HEN := Lib.hid hen
  have HZS := Lib.hid hzs
  rw [← hen] at so1 so2
  go_upto_if 38 with (fail)
  go_cut [12] (fun e wx => e = .int .i64 (en : Nat) ∧ Blk wx gS 106 #[.int .i64 (secFrom p.er.frs base f : Nat), .slice none 0 0, .int .i64 (zs : Nat), .bool wb, .bool kb] ∧ Below W1.heap.size W1 wx)
  case first =>
    by_cases h5 : la = 5
    · have q5 : ((la : Int) == 5) = true := by rw [h5]; rfl
      have e1 : en = toN p.er base 4 := by rw [hen]; unfold segEnd; exact if_pos h5
      have e2 : zs = toN p.er base 5 - toN p.er base 4 := by rw [hzs]; exact if_pos h5
      have x13 := (kL.all hbx).cell 13
      have x14 := (kL.all hbx).cell 14
      have c2 := kS.cell 2
      have f2 := kS.frozen 2
      have hle : toN p.er base 4 ≤ toN p.er base 5 := by rw [h5] at so2 so3; omega
      have h65 : toN p.er base 5 ≤ 65536 := by rw [h5] at so3; omega
      have hwr : IntKind.i64.wrap (((toN p.er base 5 : Nat) : Int) - ((toN p.er base 4 : Nat) : Int)) = ((toN p.er base 5 - toN p.er base 4 : Nat) : Int) := by
        rw [← Int.ofNat_sub hle]; exact IntWalk.i64_in _ (by omega)
      have kS2 := kS.set_ 2 (.int .i64 (toN p.er base 5 - toN p.er base 4 : Nat))
      simp only [List.setIfInBounds_toArray, List.set_cons_zero, List.set_cons_succ] at kS2
      have hbx2 := hbx.setCell (p := ⟨gS, 2, none⟩) hgS1 (.int .i64 (toN p.er base 5 - toN p.er base 4 : Nat))
      rw [← e2] at kS2 hbx2
      have E1 := Lib.hid e1
      have E2 := Lib.hid e2
      clear h5 hen hzs so1 so2 so3 e1 e2
      go_wp2_with fail
      go_meet
      exact ⟨by rw [E1.out], by rw [← E2.out]; exact kS2, by rw [← E2.out]; exact hbx2⟩
    · have q5 : ((la : Int) == 5) = false := by simp; omega
      have e1 : en = toN p.er base la := by rw [hen]; unfold segEnd; exact if_neg h5
      have e2 : zs = 0 := by rw [hzs]; exact if_neg h5
      have E1 := Lib.hid e1
      have kS2 := kS
      rw [show (0 : Int) = ((zs : Nat) : Int) by rw [e2]; rfl] at kS2
      clear h5 hen hzs so1 so2 so3 e1 e2
      go_wp2_with fail
      go_meet
      exact ⟨by rw [E1.out], kS2, hbx⟩
  case rest =>
    obtain ⟨rfl, kS, hbx⟩ := hcut
    clear hen hzs
    have hF1' := hF1
    obtain ⟨fr, hfr⟩ : ∃ e, e = secFrom p.er.frs base f := ⟨_, rfl⟩
    have HFR := Lib.hid hfr
    rw [← hfr] at kS so1
    obtain ⟨n, hn⟩ : ∃ n, n = en - fr := ⟨_, rfl⟩
    have hmk := fun W => make_bytes n (by omega) W
    have hsub : ((en : Nat) : Int) - ((fr : Nat) : Int) = ((n : Nat) : Int) := by omega
    have hwn : IntKind.i64.wrap (((en : Nat) : Int) - ((fr : Nat) : Int)) = ((n : Nat) : Int) := by rw [hsub]; exact IntWalk.i64_in _ (by omega)
    have HN := Lib.hid hn
    have hn6 : n ≤ 65536 := by omega
    have c0 := kS.cell 0
    have c1 := kS.cell 1
    have f1 := kS.frozen 1
    clear hfr hn hsub
    have hne : wc.heap.size ≠ gS := Nat.ne_of_gt kS.lt
    have hne2 : gS ≠ wc.heap.size := Nat.ne_of_lt kS.lt
    have c1' := (kS.alloc (.cells (bytesV (List.replicate n 0)).toArray 5)).cell 1
    have f1' := (kS.alloc (.cells (bytesV (List.replicate n 0)).toArray 5)).frozen 1
    go_upto_region 8 with (fail)
    have kB := Blk.new wc 5 (bytesV (List.replicate n 0)).toArray
    have kS3 := (kS.alloc (.cells (bytesV (List.replicate n 0)).toArray 5)).set_ 1 (.slice (some ⟨wc.heap.size, 0, none⟩) n n)
    simp only [List.setIfInBounds_toArray, List.set_cons_zero, List.set_cons_succ] at kS3
    have hbx3 := (hbx.alloc hbx.size (.cells (bytesV (List.replicate n 0)).toArray 5)).setCell (p := ⟨gS, 1, none⟩) hgS1 (.slice (some ⟨wc.heap.size, 0, none⟩) n n)
    have kB3 := kB.far (p := ⟨gS, 1, none⟩) hne (.slice (some ⟨wc.heap.size, 0, none⟩) n n)
    have hgB1 : W1.heap.size ≤ wc.heap.size := hbx.size
    have hgSB : gS < wc.heap.size := kS.lt
    obtain ⟨gB, hgB⟩ : ∃ g, g = wc.heap.size := ⟨_, rfl⟩
    obtain ⟨W4, hW4⟩ : ∃ W, W = (wc.alloc (.cells (bytesV (List.replicate n 0)).toArray 5)).setCell ⟨gS, 1, none⟩ (.slice (some ⟨wc.heap.size, 0, none⟩) n n) := ⟨_, rfl⟩
    rw [← hW4] at kS3 hbx3 kB3 ⊢
    rw [← hgB] at kS3 kB3 hgB1 hgSB ⊢
    clear hW4 kB hgB kS hbx c0 c1 f1 c1' f1' hne hne2 hmk hwn
    have y0 := (kP.all hbx3).cell 0
    go_wp2_with fail
    clear y0
    go_loopw [57] (fun i wx => ∃ (k : Nat) (b : List UInt8), k ≤ p.frs.length ∧ i = .int .i64 k ∧ Hid (b = segBytes p.er base fr en sects k) ∧ Blk wx gB 5 (bytesV b).toArray ∧ Blk wx gS 106 #[.int .i64 (fr : Nat), .slice (some ⟨gB, 0, none⟩) n n, .int .i64 (zs : Nat), .bool wb, .bool kb] ∧ Below W1.heap.size W1 wx) (fun i _ => p.frs.length - (intOf i).toNat)
    case atStart => exact ⟨0, List.replicate n 0, Nat.zero_le _, rfl, Lib.hid (by unfold segBytes; rw [HN.out]; rfl), kB3, kS3, hbx3⟩
    case round =>
      clear kB3 kS3 hbx3
      obtain ⟨k, b, hk, rfl, hbe, kB, kS, hbr⟩ := hrel
      by_cases hlt : k < p.frs.length
      · obtain ⟨x, hx⟩ : ∃ x, p.frs[k]? = some x := ⟨_, List.getElem?_eq_getElem hlt⟩
        have hxe : p.er.frs[k]? = some x.f := by simp [PtM.er, hx]
        have HNX : Hid (segBytes p.er base fr en sects (k + 1) = if x.f.sect ≠ 5 ∧ x.f.sect ∈ sects then layOver b (adrOf p.er.frs base k - fr) (filledP p.er base k).1 else b) := by
          show _ = _
          rw [hbe.out]
          unfold segBytes
          rw [List.range_succ, List.foldl_append]
          exact segStep_at hxe _
        obtain ⟨b6, o6, hfa, bl, c0, c1, c2, c3, c4, c5⟩ := fg_get (h1.keep hbr hbr.size).fr hx
        rw [hfa]
        clear hfa
        go_upto_region 11 with (fail)
        have kF := Blk.new wr 100 #[.int .i64 x.f.sect, .int .i64 x.f.align, .string x.f.group, .slice x.ba x.f.bs.length x.bc, .int .i64 x.f.size, .slice x.ra x.f.rs.length x.rc]
        have kB := kB.alloc (.cells #[.int .i64 x.f.sect, .int .i64 x.f.align, .string x.f.group, .slice x.ba x.f.bs.length x.bc, .int .i64 x.f.size, .slice x.ra x.f.rs.length x.rc] 100)
        have kS := kS.alloc (.cells #[.int .i64 x.f.sect, .int .i64 x.f.align, .string x.f.group, .slice x.ba x.f.bs.length x.bc, .int .i64 x.f.size, .slice x.ra x.f.rs.length x.rc] 100)
        have hbr := hbr.alloc hbr.size (.cells #[.int .i64 x.f.sect, .int .i64 x.f.align, .string x.f.group, .slice x.ba x.f.bs.length x.bc, .int .i64 x.f.size, .slice x.ra x.f.rs.length x.rc] 100)
        obtain ⟨gF, hgF⟩ : ∃ g, g = wr.heap.size := ⟨_, rfl⟩
        obtain ⟨W5, hW5⟩ : ∃ W, W = wr.alloc (.cells #[.int .i64 x.f.sect, .int .i64 x.f.align, .string x.f.group, .slice x.ba x.f.bs.length x.bc, .int .i64 x.f.size, .slice x.ra x.f.rs.length x.rc] 100) := ⟨_, rfl⟩
        rw [← hgF] at kF ⊢
        rw [← hW5] at kF kB kS hbr ⊢
        clear hW5 hgF c0 c1 c2 c3 c4 c5
        have t0 := kF.cell 0
        by_cases h5 : x.f.sect = 5
        · have q5 : (x.f.sect != 5) = false := by simpa using h5
          have HO : Hid (b = segBytes p.er base fr en sects (k + 1)) := by show _ = _; rw [HNX.out, if_neg (by simp [h5])]
          clear h5
          go_wp2_with fail
          go_roundw
          case rel => exact ⟨k + 1, b, by omega, by go_num, HO, kB, kS, hbr⟩
          case measure => simp [intOf]; omega
        · have q5 : (x.f.sect != 5) = true := by simpa using h5
          have H5 := Lib.hid h5
          have HCI := Lib.hid (containsInt_any (some ⟨bS, oS, none⟩) cs sects x.f.sect W5 ((hs1.below hbr).more hbr.size) (by omega))
          clear h5
          go_wp2_with fail
          refine HCI.out.mono ?_
          rintro e w' ⟨rfl, rfl⟩
          by_cases hm : x.f.sect ∈ sects
          · rw [decide_eq_true hm]
            have HO : Hid (layOver b (adrOf p.er.frs base k - fr) (filledP p.er base k).1 = segBytes p.er base fr en sects (k + 1)) := by show _ = _; rw [HNX.out, if_pos ⟨H5.out, hm⟩]
            have hin := HIN.out k x.f ⟨hxe, H5.out, hm⟩
            rw [← HFR.out, ← HEN.out] at hin
            have hfl := filled_len HC.out (base := base) hxe
            have hln := (frag_fine HC.out (List.mem_of_getElem? hxe)).ln H5.out
            have hbl : b.length = n := by
              rw [hbe.out, HFR.out, HEN.out, HSI.out k (by simp [PtM.er]; omega), HN.out, HFR.out, HEN.out]
            obtain ⟨y, hy⟩ : ∃ y, all[k]? = some y := ⟨_, List.getElem?_eq_getElem (by have := HLEN.out; omega)⟩
            have hyb : y.bs = (filledP p.er base k).1 := by
              have := congrArg (fun l : List (List UInt8) => l[k]?) HAL.out
              simp only [List.getElem?_map, hy, List.getElem?_range hlt] at this
              simpa using this
            rw [← hyb] at HO hfl
            have hfk : (natsV (layFr p.er base))[k]? = some (.int .i64 (adrOf p.er.frs base k : Nat)) := natsV_at (by unfold layFr; rw [List.getElem?_map, List.getElem?_range (List.getElem?_eq_some_iff.1 hxe).1]; rfl)
            obtain ⟨b1, o1, _, e1, z1, _⟩ := hlf.at_ hlt
            have hlf2 := hlf.below hbr
            rw [e1] at hlf2
            have d1 := hlf2.cell1 hfk
            obtain ⟨b2, o2, e2, z2, d2'⟩ := bs_get ha1 hy
            have d2 := (hbr.cell (p := ⟨b2, o2 + k, none⟩) z2).trans d2'
            have zL : gL < gB := Nat.lt_of_lt_of_le kL.lt hgB1
            have zb1 : b1 < gB := Nat.lt_of_lt_of_le z1 hgB1
            have zb2 : b2 < gB := Nat.lt_of_lt_of_le z2 hgB1
            have hyr := (ha1.keep hbr hbr.size).each y (List.mem_of_getElem? hy)
            have x0 := (kL.all hbr).cell 0
            rw [e1] at x0
            have s0 := kS.cell 0
            have s1 := kS.cell 1
            obtain ⟨ad, had⟩ : ∃ a, a = adrOf p.er.frs base k := ⟨_, rfl⟩
            rw [← had] at d1 hin HO
            obtain ⟨d, hd⟩ : ∃ d, d = ad - fr := ⟨_, rfl⟩
            rw [← hd] at HO
            have hsub : ((ad : Nat) : Int) - ((fr : Nat) : Int) = ((d : Nat) : Int) := by omega
            have hwd : IntKind.i64.wrap (((ad : Nat) : Int) - ((fr : Nat) : Int)) = ((d : Nat) : Int) := by rw [hsub]; exact IntWalk.i64_in _ (by omega)
            have hyn : d + y.bs.length ≤ n := by rw [HN.out]; omega
            have b0 : (0 : Int) ≤ ((d : Nat) : Int) := by omega
            have b1' : ((d : Nat) : Int) ≤ ((n : Nat) : Int) := by omega
            have b2' : (0 : Int) ≤ ((k : Nat) : Int) := by omega
            have b3' : ((k : Nat) : Int) < ((p.frs.length : Nat) : Int) := by omega
            have b4' : ((k : Nat) : Int) < ((all.length : Nat) : Int) := by have := HLEN.out; omega
            subst e2
            have HBL := Lib.hid hbl
            have HHD := Lib.hid hd
            have HE1 := Lib.hid e1
            have hgBB : W1.heap.size ≤ gB := hgB1
            have kBp : Hid (Blk W5 gB 5 (bytesV b).toArray) := kB
            clear hm hin hfl hln hbl hy hyb hfk e1 had hd hsub hlf2 HNX kB
            go_upto_region 12 with (fail)
            by_cases hnd : n = d
            · subst hnd
              go_region_held3 (fun w' => w'.cell? ⟨gS, 1, none⟩ = some (.slice (some ⟨gB, 0, none⟩) n n) ∧ w'.cell? ⟨gS, 0, none⟩ = some (.int .i64 (fr : Nat)) ∧ w'.cell? ⟨gL, 0, none⟩ = some (.slice (some ⟨b1, o1, none⟩) p.frs.length l.fc) ∧ w'.cell? ⟨b1, o1 + k, none⟩ = some (.int .i64 (ad : Nat)) ∧ w'.cell? ⟨b2, o2 + k, none⟩ = some (.slice y.a y.bs.length y.c)) (first | go_keep | exact ⟨(hb4.cell (p := ⟨gS, 1, none⟩) hgSB).trans s1, (hb4.cell (p := ⟨gS, 0, none⟩) hgSB).trans s0, (hb4.cell (p := ⟨gL, 0, none⟩) zL).trans x0, (hb4.cell (p := ⟨b1, o1 + k, none⟩) zb1).trans d1, (hb4.cell (p := ⟨b2, o2 + k, none⟩) zb2).trans d2⟩)
                ((refine step_copy_splice (by rfl) (.tmp 81) (.tmp 85) 97 97 (by rfl) 5 Try.underlying97 Try.sizeByte (some ⟨gB, 0, none⟩) y.a 0 0 y.bs.length y.c (by rfl) (by rfl) gB n (bytesV b) 5 kBp.out.drew (bytesV y.bs) (by rw [bytesV, List.length_map]; exact (Nat.min_eq_left (by omega)).symm) (fun hp => by rw [bytesV, List.length_map] at hp; omega) (by rw [bytesV, bytesV, List.length_map, List.length_map, HBL.out]; omega) (bytesV_one _) gB _ (Below.refl _ _) (Nat.le_refl _) ?_; intro w4 hg4 hb4))
              go_wp2_with fail
              have kB4 : Blk w4 gB 5 (bytesV (layOver b n y.bs)).toArray := by rw [layOver_splice (by rw [HBL.out]; omega)]; exact hg4.out
              have kS4 := (kS.drew).below hb4 hgSB
              have hbr4 := hbr.drew.trans (hb4.mono hgBB)
              go_roundw
              case rel => exact ⟨k + 1, layOver b n y.bs, by omega, by go_num, HO, kB4, kS4, hbr4⟩
              case measure => simp [intOf]; omega
            · go_region_held3 (fun w' => w'.cell? ⟨gS, 1, none⟩ = some (.slice (some ⟨gB, 0, none⟩) n n) ∧ w'.cell? ⟨gS, 0, none⟩ = some (.int .i64 (fr : Nat)) ∧ w'.cell? ⟨gL, 0, none⟩ = some (.slice (some ⟨b1, o1, none⟩) p.frs.length l.fc) ∧ w'.cell? ⟨b1, o1 + k, none⟩ = some (.int .i64 (ad : Nat)) ∧ w'.cell? ⟨b2, o2 + k, none⟩ = some (.slice y.a y.bs.length y.c)) (first | go_keep | exact ⟨(hb4.cell (p := ⟨gS, 1, none⟩) hgSB).trans s1, (hb4.cell (p := ⟨gS, 0, none⟩) hgSB).trans s0, (hb4.cell (p := ⟨gL, 0, none⟩) zL).trans x0, (hb4.cell (p := ⟨b1, o1 + k, none⟩) zb1).trans d1, (hb4.cell (p := ⟨b2, o2 + k, none⟩) zb2).trans d2⟩)
                ((refine step_copy_splice (by rfl) (.tmp 81) (.tmp 85) 97 97 (by rfl) 5 Try.underlying97 Try.sizeByte (some ⟨gB, d, none⟩) y.a (n - d) (n - d) y.bs.length y.c (by rfl) (by rfl) gB d (bytesV b) 5 kBp.out.drew (bytesV y.bs) (by rw [bytesV, List.length_map]; exact (Nat.min_eq_left (by omega)).symm) (fun hp => ⟨rfl, reads_pos hyr.drew hp⟩) (by rw [bytesV, bytesV, List.length_map, List.length_map, HBL.out]; omega) (bytesV_one _) gB _ (Below.refl _ _) (Nat.le_refl _) ?_; intro w4 hg4 hb4))
              go_wp2_with fail
              have kB4 : Blk w4 gB 5 (bytesV (layOver b d y.bs)).toArray := by rw [layOver_splice (by rw [HBL.out]; omega)]; exact hg4.out
              have kS4 := (kS.drew).below hb4 hgSB
              have hbr4 := hbr.drew.trans (hb4.mono hgBB)
              go_roundw
              case rel => exact ⟨k + 1, layOver b d y.bs, by omega, by go_num, HO, kB4, kS4, hbr4⟩
              case measure => simp [intOf]; omega
          · have HO : Hid (b = segBytes p.er base fr en sects (k + 1)) := by show _ = _; rw [HNX.out, if_neg (by simp [hm])]
            rw [decide_eq_false hm]
            clear hm
            go_wp2_with fail
            go_roundw
            case rel => exact ⟨k + 1, b, by omega, by go_num, HO, kB, kS, hbr⟩
            case measure => simp [intOf]; omega
      · obtain rfl : k = p.frs.length := by omega
        have s0 := kS.cell 0
        have s1 := kS.cell 1
        have s2 := kS.cell 2
        have s3 := kS.cell 3
        have s4 := kS.cell 4
        have kO := kO.all hbr
        have o0 := kO.cell 0
        have o1 := kO.cell 1
        have o2 := kO.cell 2
        have o3 := kO.cell 3
        have o4 := kO.cell 4
        have f0 := kO.frozen 0
        have f1 := kO.frozen 1
        have f2 := kO.frozen 2
        have f3 := kO.frozen 3
        have f4 := kO.frozen 4
        have kZ := ((((kO.set_ 0 (.int .i64 (fr : Nat))).set_ 1 (.slice (some ⟨gB, 0, none⟩) n n)).set_ 2 (.int .i64 (zs : Nat))).set_ 3 (.bool wb)).set_ 4 (.bool kb)
        simp only [List.setIfInBounds_toArray, List.set_cons_zero, List.set_cons_succ] at kZ
        have hB9 := (((((hb.trans (hbr.mono hb.size)).setCell (p := ⟨gO, 0, none⟩) hgO2 (.int .i64 (fr : Nat))).setCell (p := ⟨gO, 1, none⟩) hgO2 (.slice (some ⟨gB, 0, none⟩) n n)).setCell (p := ⟨gO, 2, none⟩) hgO2 (.int .i64 (zs : Nat))).setCell (p := ⟨gO, 3, none⟩) hgO2 (.bool wb)).setCell (p := ⟨gO, 4, none⟩) hgO2 (.bool kb)
        have hgOB : gB ≠ gO := fun e => Blk.ne_ kB kO (by decide) e
        have kB9 := ((((kB.far (p := ⟨gO, 0, none⟩) hgOB (.int .i64 (fr : Nat))).far (p := ⟨gO, 1, none⟩) hgOB (.slice (some ⟨gB, 0, none⟩) n n)).far (p := ⟨gO, 2, none⟩) hgOB (.int .i64 (zs : Nat))).far (p := ⟨gO, 3, none⟩) hgOB (.bool wb)).far (p := ⟨gO, 4, none⟩) hgOB (.bool kb)
        have hbl : b.length = n := by
          rw [hbe.out, HFR.out, HEN.out, HSI.out _ (by simp [PtM.er]), HN.out, HFR.out, HEN.out]
        go_wp2_with fail
        obtain ⟨W9, hW9⟩ : ∃ W, W = ((((wr.setCell ⟨gO, 0, none⟩ (.int .i64 (fr : Nat))).setCell ⟨gO, 1, none⟩ (.slice (some ⟨gB, 0, none⟩) n n)).setCell ⟨gO, 2, none⟩ (.int .i64 (zs : Nat))).setCell ⟨gO, 3, none⟩ (.bool wb)).setCell ⟨gO, 4, none⟩ (.bool kb) := ⟨_, rfl⟩
        rw [← hW9] at kZ hB9 kB9 ⊢
        clear hW9
        have r0 := kZ.cell 0
        have r1 := kZ.cell 1
        have r2 := kZ.cell 2
        have r3 := kZ.cell 3
        have r4 := kZ.cell 4
        refine bodyPost_ret (v := .agg #[.int .i64 (fr : Nat), .slice (some ⟨gB, 0, none⟩) n n, .int .i64 (zs : Nat), .bool wb, .bool kb]) (by simp [results, Try.results101, go_sem, r0, r1, r2, r3, r4]) rfl ?_
        have hbe2 : (segP p.er base f la sects).bs = b := by
          rw [hbe.out, HFR.out, HEN.out]
          show segBytes p.er base _ _ sects p.er.frs.length = segBytes p.er base _ _ sects p.frs.length
          simp [PtM.er]; rfl
        have hw1 : wb = decide (f = 4) := by rw [← hwb]; exact Bool.eq_iff_iff.2 (by simp; omega)
        have hk1 : kb = decide (f = 1) := by rw [← hkb]; exact Bool.eq_iff_iff.2 (by simp; omega)
        refine ⟨some ⟨gB, 0, none⟩, n, ?_, ?_, hB9⟩
        · rw [hbe2, hbl]
          show _ = Ending.returned (.agg #[.int .i64 (secFrom p.er.frs base f : Nat), _, .int .i64 ((if la = 5 then toN p.er base 5 - toN p.er base 4 else 0 : Nat) : Nat), .bool (decide (f = 4)), .bool (decide (f = 1))])
          rw [← HFR.out, ← HZS.out, ← hw1, ← hk1]
        · rw [hbe2, hbl]
          exact own_of_blk kB9 (by have := hb.size; omega) (by simp [bytesV, hbl]) (by omega)
end Go.Proofs.Ytbhjdinjoonngaa

/- link.Link: what it says; its errors. -/
namespace Go.Proofs.Ytbhjdinjoonngaa
open Go.RowKit

def Seg.er (s : Seg) : Seg := { s with ba := none, bc := 0 }
def SgP.seg (s : SgP) : Seg := ⟨s.at_, s.bs, s.zeros, s.writes, s.works, none, 0⟩
theorem segsAt_nil (w : World) (B : Nat) : SegsAt w B none [] := ⟨Reads.none_, (fun _ h => absurd h (by simp)), (by simp), (fun _ h => absurd h (by simp))⟩
def LinkIs (w : World) (r : ImP × List Flx × Int) (e : Ending) (w' : World) : Prop :=
  ∃ (A : Option Addr) (c : Nat) (segs : List Seg) (Au : Option Addr) (cu : Nat), e = .returned (.tuple #[.agg #[.int .i64 r.1.entry, .slice A segs.length c], .slice Au r.2.1.length cu, .int .i64 r.2.2]) ∧ segs.map Seg.er = r.1.segs.map SgP.seg ∧
    SegsAt w' w'.heap.size A segs ∧ Reads w' w'.heap.size 4 Au r.2.1.length (flxsV r.2.1) ∧ r.2.1.length ≤ cu ∧ Below w.heap.size w w'
theorem linkP_bad {p : Prt} {base : Int} {entry : ByteArray} (h : linkE p base entry ≠ 0) : linkP p base entry = (⟨0, []⟩, [], linkE p base entry) := if_pos h

set_option maxHeartbeats 20000000 in
set_option maxRecDepth 100000 in
theorem link_bad (p : PtM) (base : Int) (entry : ByteArray) (w : World) (h : p.At w w.heap.size) (hE : linkE p.er base entry ≠ 0) :
    Calls Try.prog 41 #[.agg #[.slice p.fa p.frs.length p.fc, .slice p.da p.dfs.length p.dc], .int .i64 base, .string entry] w (LinkIs w (linkP p.er base entry)) := by
  have hP := linkP_bad hE
  have kP := ((Blk.new w 44 #[.slice p.fa p.frs.length p.fc, .slice p.da p.dfs.length p.dc]).alloc (.cells #[.string entry] 9)).alloc (.cells #[.int .i64 0, .slice none 0 0] 87)
  have kE := (Blk.new' (w.alloc (.cells #[.slice (p).fa (p).frs.length (p).fc, .slice (p).da (p).dfs.length (p).dc] 44)) 9 #[.string entry] (g := w.heap.size + 1) (by simp)).alloc (.cells #[.int .i64 0, .slice none 0 0] 87)
  have kI := Blk.new' ((w.alloc (.cells #[.slice (p).fa (p).frs.length (p).fc, .slice (p).da (p).dfs.length (p).dc] 44)).alloc (.cells #[.string entry] 9)) 87 #[.int .i64 0, .slice none 0 0] (g := w.heap.size + 1 + 1) (by simp)
  have hb : Below w.heap.size w (((w.alloc (.cells #[.slice (p).fa (p).frs.length (p).fc, .slice (p).da (p).dfs.length (p).dc] 44)).alloc (.cells #[.string entry] 9)).alloc (.cells #[.int .i64 0, .slice none 0 0] 87)) := by (repeat' (first | exact Below.refl _ _ | assumption | refine Below.setCell ?_ (by first | omega | exact Below.size (by assumption) | (simp; done) | (simp; omega)) _ | refine Below.alloc ?_ (by first | omega | exact Below.size (by assumption) | (simp; done) | (simp; omega)) _ | refine Below.drew ?_ | refine below_drewN ?_ _))
  have h1 := h.all hb
  obtain ⟨n, hn⟩ : ∃ n, linkE p.er base entry = n := ⟨_, rfl⟩
  rw [hn] at hP hE
  have HP := Lib.hid hP
  have HN := Lib.hid hn
  have hn0 : (n != 0) = true := by simpa using hE
  clear h hP hn hE
  go_enter Try.func41, Try.ntmps41
  go_upto_region 2 with (fail)
  obtain ⟨W0, hW0⟩ : ∃ W, W = (((w.alloc (.cells #[.slice (p).fa (p).frs.length (p).fc, .slice (p).da (p).dfs.length (p).dc] 44)).alloc (.cells #[.string entry] 9)).alloc (.cells #[.int .i64 0, .slice none 0 0] 87)) := ⟨_, rfl⟩
  rw [← hW0] at kP kE kI hb h1 ⊢
  obtain ⟨gI, hgI'⟩ : ∃ g, g = w.heap.size + 1 + 1 := ⟨_, rfl⟩
  obtain ⟨gE, hgE'⟩ : ∃ g, g = w.heap.size + 1 := ⟨_, rfl⟩
  have hgI : w.heap.size ≤ gI := by omega
  rw [← hgI'] at kI ⊢
  rw [← hgE'] at kE ⊢
  clear hW0 hgI' hgE'
  have p0 := kP.cell 0
  have p1 := kP.cell 1
  go_wp2_with fail
  refine (check_any p W0 h1).mono ?_
  rintro e w2 ⟨rfl, hb2⟩
  have kP2 := kP.all hb2
  have kE2 := kE.all hb2
  have h2 := h1.all hb2
  by_cases hc : ckPart p.er = 0
  · rw [hc]
    have e0 := kE2.cell 0
    have HC := Lib.hid hc
    clear hc p0 p1
    go_wp2_with fail
    refine (name_any entry w2).mono ?_
    rintro e w' ⟨rfl, rfl⟩
    by_cases hb8 : nameB entry = false
    · have hne : n = 1 := by
        rw [← HN.out]
        unfold linkE
        rw [if_neg (by simp [HC.out]), if_pos hb8]
      subst hne
      rw [hb8]
      clear hb8
      (go_wp2_with fail; refine (link1_any 1 _).mono ?_; rintro e w9 ⟨rfl, hb9⟩; have kI9 := kI.all (hb2.trans (hb9.mono hb2.size)); have i0 := kI9.cell 0; have i1 := kI9.cell 1; have f0 := kI9.frozen 0; have f1 := kI9.frozen 1; have kZ := (kI9.set_ 0 (.int .i64 0)).set_ 1 (.slice none 0 0); simp only [List.setIfInBounds_toArray, List.set_cons_zero, List.set_cons_succ] at kZ; have hB9 := (((hb.trans (hb2.mono hb.size)).trans (hb9.mono (Nat.le_trans hb.size hb2.size))).setCell (p := ⟨gI, 0, none⟩) hgI (.int .i64 0)).setCell (p := ⟨gI, 1, none⟩) hgI (.slice none 0 0); go_wp2_with fail; have r0 := kZ.cell 0; have r1 := kZ.cell 1; refine bodyPost_ret (v := .tuple #[.agg #[.int .i64 0, .slice none 0 0], .slice none 0 0, .int .i64 (1)]) (by simp [results, Try.results41, go_sem, r0, r1]) rfl ?_; exact ⟨none, 0, [], none, 0, by rw [HP.out]; rfl, by rw [HP.out]; rfl, segsAt_nil _ _, by rw [HP.out]; exact Reads.none_, by rw [HP.out]; exact Nat.le_refl _, hB9⟩)
    · have hbt : nameB entry = true := by simpa using hb8
      have hne : Hid (layE p.er base = n) := by
        show _ = _
        rw [← HN.out]
        unfold linkE
        rw [if_neg (by simp [HC.out]), if_neg hb8]
      rw [hbt]
      have p0 := kP2.cell 0
      have p1 := kP2.cell 1
      clear hb8 hbt e0
      go_wp2_with fail
      refine (lay_any p base w2 h2).mono ?_
      rintro e w3 ⟨l, rfl, hr, hl, hb3⟩
      have hlc := lay_cells_bad hr (by rw [hne.out]; simpa using hn0)
      rw [hlc, hne.out]
      replace hb2 := hb2.trans (hb3.mono hb2.size)
      clear hlc hl hr hb3 p0 p1
      go_upto_region 8 with (fail)
      have hbx : Below w3.heap.size w3 (w3.alloc (.cells #[.slice (l).fa 0 (l).fc, .slice (l).na 0 (l).nc, .slice (l).ca 0 (l).cc, .int .i64 0, .int .i64 0, .int .i64 0, .int .i64 0, .int .i64 0, .int .i64 0, .int .i64 0, .int .i64 0, .int .i64 0, .int .i64 0, .int .i64 0, .int .i64 0] 93)) := by (repeat' (first | exact Below.refl _ _ | assumption | refine Below.setCell ?_ (by first | omega | exact Below.size (by assumption) | (simp; done) | (simp; omega)) _ | refine Below.alloc ?_ (by first | omega | exact Below.size (by assumption) | (simp; done) | (simp; omega)) _ | refine Below.drew ?_ | refine below_drewN ?_ _))
      replace hb2 := hb2.trans (hbx.mono hb2.size)
      obtain ⟨W4, hW4⟩ : ∃ W, W = w3.alloc (.cells #[.slice (l).fa 0 (l).fc, .slice (l).na 0 (l).nc, .slice (l).ca 0 (l).cc, .int .i64 0, .int .i64 0, .int .i64 0, .int .i64 0, .int .i64 0, .int .i64 0, .int .i64 0, .int .i64 0, .int .i64 0, .int .i64 0, .int .i64 0, .int .i64 0] 93) := ⟨_, rfl⟩
      rw [← hW4] at hb2 ⊢
      clear hW4 hbx
      (go_wp2_with fail; refine (link1_any n _).mono ?_; rintro e w9 ⟨rfl, hb9⟩; have kI9 := kI.all (hb2.trans (hb9.mono hb2.size)); have i0 := kI9.cell 0; have i1 := kI9.cell 1; have f0 := kI9.frozen 0; have f1 := kI9.frozen 1; have kZ := (kI9.set_ 0 (.int .i64 0)).set_ 1 (.slice none 0 0); simp only [List.setIfInBounds_toArray, List.set_cons_zero, List.set_cons_succ] at kZ; have hB9 := (((hb.trans (hb2.mono hb.size)).trans (hb9.mono (Nat.le_trans hb.size hb2.size))).setCell (p := ⟨gI, 0, none⟩) hgI (.int .i64 0)).setCell (p := ⟨gI, 1, none⟩) hgI (.slice none 0 0); go_wp2_with fail; have r0 := kZ.cell 0; have r1 := kZ.cell 1; refine bodyPost_ret (v := .tuple #[.agg #[.int .i64 0, .slice none 0 0], .slice none 0 0, .int .i64 (n)]) (by simp [results, Try.results41, go_sem, r0, r1]) rfl ?_; exact ⟨none, 0, [], none, 0, by rw [HP.out]; rfl, by rw [HP.out]; rfl, segsAt_nil _ _, by rw [HP.out]; exact Reads.none_, by rw [HP.out]; exact Nat.le_refl _, hB9⟩)
  · have hne : n = ckPart p.er := by
      rw [← HN.out]
      unfold linkE
      rw [if_pos hc]
    rw [← hne]
    clear hc hne p0 p1
    (go_wp2_with fail; refine (link1_any n _).mono ?_; rintro e w9 ⟨rfl, hb9⟩; have kI9 := kI.all (hb2.trans (hb9.mono hb2.size)); have i0 := kI9.cell 0; have i1 := kI9.cell 1; have f0 := kI9.frozen 0; have f1 := kI9.frozen 1; have kZ := (kI9.set_ 0 (.int .i64 0)).set_ 1 (.slice none 0 0); simp only [List.setIfInBounds_toArray, List.set_cons_zero, List.set_cons_succ] at kZ; have hB9 := (((hb.trans (hb2.mono hb.size)).trans (hb9.mono (Nat.le_trans hb.size hb2.size))).setCell (p := ⟨gI, 0, none⟩) hgI (.int .i64 0)).setCell (p := ⟨gI, 1, none⟩) hgI (.slice none 0 0); go_wp2_with fail; have r0 := kZ.cell 0; have r1 := kZ.cell 1; refine bodyPost_ret (v := .tuple #[.agg #[.int .i64 0, .slice none 0 0], .slice none 0 0, .int .i64 (n)]) (by simp [results, Try.results41, go_sem, r0, r1]) rfl ?_; exact ⟨none, 0, [], none, 0, by rw [HP.out]; rfl, by rw [HP.out]; rfl, segsAt_nil _ _, by rw [HP.out]; exact Reads.none_, by rw [HP.out]; exact Nat.le_refl _, hB9⟩)
end Go.Proofs.Ytbhjdinjoonngaa

/- link.Link: small facts for its walk. -/
namespace Go.Proofs.Ytbhjdinjoonngaa
open Go.RowKit

theorem Try.infoBytes2 : (Try.prog.info? 97).map (fun i => (i.zero, i.size, i.bytes)) = some (some (.slice none 0 0), 1, 24) := by kernel_rfl
theorem Try.infoSeg : (Try.prog.info? 106).map (fun i => (i.zero, i.size, i.bytes)) = some (some (.agg #[.int .i64 0, .slice none 0 0, .int .i64 0, .bool false, .bool false]), 5, 48) := by kernel_rfl
theorem wanted_len {p : PtM} (hsm : p.Small) : (wantedP p.er).length ≤ 480 := by
  have h3 := setS_len (p.er.frs.flatMap wantedF)
  have h4 : (p.er.frs.flatMap wantedF).length ≤ p.er.frs.length * 8 := by
    have : ∀ l : List FgM, (∀ x ∈ l, x.f.rs.length ≤ 8) → ((l.map FgM.f).flatMap wantedF).length ≤ l.length * 8 := by
      intro l
      induction l with
      | nil => intro _; simp
      | cons x r ih =>
        intro hx
        have h5 := ih (fun y hy => hx y (by simp [hy]))
        have h6 : (wantedF x.f).length ≤ 8 := by
          unfold wantedF
          rw [List.length_map]
          exact Nat.le_trans (List.length_filter_le ..) (hx x (by simp))
        rw [List.map_cons, List.flatMap_cons, List.length_append, List.length_cons]
        omega
    have h7 := this p.frs hsm.re
    simpa [PtM.er] using h7
  have h5 : p.er.frs.length = p.frs.length := by simp [PtM.er]
  have nf := hsm.fr
  unfold wantedP
  omega
theorem faults_len {p : PtM} (hsm : p.Small) : (faultsP p.er).length ≤ 540 := by
  have h1 := wanted_len hsm
  have h3 := setS_len (p.er.dfs.map Df.name)
  have h4 : (p.er.dfs.map Df.name).length = p.dfs.length := by simp [PtM.er]
  have nd := hsm.df
  have h5 := setS_len (wantedP p.er ++ definedP p.er)
  rw [List.length_append] at h5
  have h6 : (definedP p.er).length ≤ p.dfs.length := by unfold definedP; omega
  have h7 : (faultsP p.er).length ≤ (setS (wantedP p.er ++ definedP p.er)).length := List.length_filterMap_le _ _
  omega
theorem fold_flen {p : Prt} {base i : Nat} : ∀ (rs : List Rel) (st : List UInt8 × List Flx), (rs.foldl (fillStep p base i) st).2.length ≤ st.2.length + rs.length
  | [], _ => by simp
  | r :: rs, st => by
    have h := fold_flen (p := p) (base := base) (i := i) rs (fillStep p base i st r)
    have h2 : (fillStep p base i st r).2.length ≤ st.2.length + 1 := by
      unfold fillStep
      split
      · omega
      · split
        · simp
        · simp
    rw [List.foldl_cons, List.length_cons]
    omega
theorem filled_flen {p : PtM} (hsm : p.Small) (base i : Nat) : (filledP p.er base i).2.length ≤ 8 := by
  unfold filledP
  rcases hf : p.er.frs[i]? with _ | f
  · simp
  · simp only
    have h := fold_flen (p := p.er) (base := base) (i := i) f.rs (f.bs, [])
    have hm := List.mem_of_getElem? hf
    obtain ⟨x, hx, rfl⟩ := List.mem_map.1 (show f ∈ p.frs.map FgM.f from hm)
    have := hsm.re x hx
    unfold filledAt
    simp only [List.length_nil, Nat.zero_add] at h
    omega
theorem name_any_eq (s : ByteArray) (l : List Flx) : (l.any fun f => f.name.toList == s.toList) = decide (s ∈ l.map Flx.name) := by
  rw [Bool.eq_iff_iff, List.any_eq_true, decide_eq_true_eq, List.mem_map]
  constructor
  · rintro ⟨f, hf, he⟩
    refine ⟨f, hf, key_inj ?_⟩
    rw [← key_toList, ← key_toList]
    simpa using he
  · rintro ⟨f, hf, rfl⟩
    exact ⟨f, hf, by simp⟩
theorem bss_one (l : List BsM) : ∀ u ∈ bssV l, u.oneCell' = true := by
  intro u hu
  obtain ⟨x, _, rfl⟩ := List.mem_map.1 hu
  rfl
theorem bssV_append (l m : List BsM) : bssV (l ++ m) = bssV l ++ bssV m := List.map_append ..
theorem flxsV_one (l : List Flx) : ∀ u ∈ flxsV l, u.oneCell' = true := by
  intro u hu
  simp only [flxsV, List.mem_flatMap] at hu
  obtain ⟨x, _, hx⟩ := hu
  exact flx_one x u hx
theorem below_grow {w wr w' : World} {base size n : Nat} {t : TypeId} {v : Value} {xs : List Value} (hb : Below base w wr) (h : wr.ownsRow base t size v n xs) (hg : wr.grownBy w' v.ownBlock) (hB : base ≤ wr.heap.size) : Below base w w' :=
  hb.grown hg hB (fun k hk => (h.lt k hk).1)
theorem linkP_ok {p : Prt} {base : Nat} {entry : ByteArray} (h : linkE p base entry = 0) (hf : linkFl p base entry = []) :
    linkP p base entry = (⟨(whereA p base entry).1, [segP p base 1 1 [1], segP p base 2 3 [2, 3], segP p base 4 5 [4, 5]]⟩, [], 0) := by
  unfold linkP
  rw [if_neg (by simp [h]), if_neg (by simp [hf])]
  rfl
theorem linkP_told {p : Prt} {base : Nat} {entry : ByteArray} (h : linkE p base entry = 0) (hf : linkFl p base entry ≠ []) : linkP p base entry = (⟨0, []⟩, linkFl p base entry, 0) := by
  unfold linkP
  rw [if_neg (by simp [h]), if_pos (by simpa using hf)]
  rfl
theorem linkE_zero {p : Prt} {base : Int} {entry : ByteArray} (h : linkE p base entry = 0) : ckPart p = 0 ∧ nameB entry = true ∧ layE p base = 0 := by
  unfold linkE at h
  split at h
  · rename_i h1; exact absurd h h1
  · rename_i h1
    split at h
    · cases h
    · rename_i h2
      exact ⟨by simpa using h1, by simpa using h2, h⟩
/-- The image under construction: its segments, the sections' lists. -/
structure LKS (wr : World) (base gO g1 g2 g3 : Nat) (bg : Int) (A : Option Addr) (c : Nat) (segs : List Seg) : Prop where
  row : wr.ownsRow base 106 5 (.slice A segs.length c) segs.length (segs.flatMap Seg.cells)
  each : ∀ s ∈ segs, wr.ownsRow base 5 1 (.slice s.ba s.Bytes.length s.bc) s.Bytes.length (bytesV s.Bytes)
  box : Blk wr gO 87 #[.int .i64 bg, .slice A segs.length c]
  s1 : Blk wr g1 3 #[.int .i64 1]
  s2 : Blk wr g2 3 #[.int .i64 2, .int .i64 3]
  s3 : Blk wr g3 3 #[.int .i64 4, .int .i64 5]
section
variable {wr w' : World} {base gO g1 g2 g3 c : Nat} {bg : Int} {A : Option Addr} {segs : List Seg}
theorem LKS.all (h : LKS wr base gO g1 g2 g3 bg A c segs) (hb : Below wr.heap.size wr w') : LKS w' base gO g1 g2 g3 bg A c segs :=
  ⟨own_all h.row hb, fun s hs => own_all (h.each s hs) hb, h.box.all hb, h.s1.all hb, h.s2.all hb, h.s3.all hb⟩
theorem LKS.grow (h : LKS wr base gO g1 g2 g3 bg A c segs) (hg : wr.grownBy w' (Value.slice A segs.length c).ownBlock) : Blk w' gO 87 #[.int .i64 bg, .slice A segs.length c] ∧ Blk w' g1 3 #[.int .i64 1] ∧ Blk w' g2 3 #[.int .i64 2, .int .i64 3] ∧ Blk w' g3 3 #[.int .i64 4, .int .i64 5] :=
  ⟨h.box.grown hg (own_blk_ne h.row h.box (by decide)).symm, h.s1.grown hg (own_blk_ne h.row h.s1 (by decide)).symm, h.s2.grown hg (own_blk_ne h.row h.s2 (by decide)).symm, h.s3.grown hg (own_blk_ne h.row h.s3 (by decide)).symm⟩
theorem LKS.push (h : LKS wr base gO g1 g2 g3 bg A c segs) {s : Seg} (hs : wr.ownsRow base 5 1 (.slice s.ba s.Bytes.length s.bc) s.Bytes.length (bytesV s.Bytes)) {w5 : World} {A' : Option Addr} {c' : Nat}
    (ho : w5.ownsRow base 106 5 (.slice A' (segs.length + 1) c') (segs.length + 1) (segs.flatMap Seg.cells ++ s.cells)) (hg : wr.grownBy w5 (Value.slice A segs.length c).ownBlock) :
    LKS (w5.setCell ⟨gO, 1, none⟩ (.slice A' (segs.length + 1) c')) base gO g1 g2 g3 bg A' c' (segs ++ [s]) := by
  obtain ⟨b0, b1, b2, b3⟩ := h.grow hg
  refine ⟨?_, fun x hx => ?_, ?_, b1.far (p := ⟨gO, 1, none⟩) (Blk.ne_ b1 b0 (by decide)) _, b2.far (p := ⟨gO, 1, none⟩) (Blk.ne_ b2 b0 (by decide)) _, b3.far (p := ⟨gO, 1, none⟩) (Blk.ne_ b3 b0 (by decide)) _⟩
  · rw [List.flatMap_append, List.length_append]
    have := own_setCell (p := ⟨gO, 1, none⟩) ho (own_blk_ne ho b0 (by decide)) (.slice A' (segs.length + 1) c')
    simpa using this
  · have key : w5.ownsRow base 5 1 (.slice x.ba x.Bytes.length x.bc) x.Bytes.length (bytesV x.Bytes) := by
      rcases List.mem_append.1 hx with hx | hx
      · exact own_kept (h.each x hx) hg (own_row_ne (h.each x hx) h.row (by decide))
      · obtain rfl : x = s := by simpa using hx
        exact own_kept hs hg (own_row_ne hs h.row (by decide))
    exact own_setCell key (own_blk_ne key b0 (by decide)) _
  · rw [List.length_append]
    have := b0.set_ 1 (.slice A' (segs.length + 1) c')
    simpa using this
theorem seg_one (s : Seg) : ∀ u ∈ s.cells, u.oneCell' = true := by
  intro u hu
  simp [Seg.cells] at hu
  rcases hu with rfl | rfl | rfl | rfl | rfl <;> rfl
theorem LKS.at_ (h : LKS wr base gO g1 g2 g3 bg A c segs) : SegsAt wr wr.heap.size A segs := by
  refine ⟨Reads.of_own h.row, fun s hs => Reads.of_own (h.each s hs), ?_, fun s hs => ?_⟩
  · obtain ⟨_, _, _, h1, h2⟩ := own_form h.row
    omega
  · obtain ⟨_, _, _, h1, h2⟩ := own_form (h.each s hs)
    omega
theorem LKS.img (h : LKS wr base gO g1 g2 g3 bg A c segs) {gI : Nat} {cs : Array Value} (kI : Blk wr gI 87 cs) (hne : gO ≠ gI) (j : Nat) (u : Value) : LKS (wr.setCell ⟨gI, j, none⟩ u) base gO g1 g2 g3 bg A c segs :=
  ⟨own_setCell h.row (own_blk_ne h.row kI (by decide)) _, fun s hs => own_setCell (h.each s hs) (own_blk_ne (h.each s hs) kI (by decide)) _, h.box.far (p := ⟨gI, j, none⟩) hne _,
    h.s1.far (p := ⟨gI, j, none⟩) (Blk.ne_ h.s1 kI (by decide)) _, h.s2.far (p := ⟨gI, j, none⟩) (Blk.ne_ h.s2 kI (by decide)) _, h.s3.far (p := ⟨gI, j, none⟩) (Blk.ne_ h.s3 kI (by decide)) _⟩
end
theorem flat8 {α β : Type} {f : α → List β} (hf : ∀ a, (f a).length ≤ 8) : ∀ l : List α, (l.flatMap f).length ≤ 8 * l.length
  | [] => by simp
  | a :: r => by
    have h1 := flat8 hf r
    have h2 := hf a
    rw [List.flatMap_cons, List.length_append, List.length_cons]
    omega
theorem linkFl_len {p : PtM} (hsm : p.Small) (n : Nat) (entry : ByteArray) : (linkFl p.er n entry).length ≤ 1021 := by
  have h1 := faults_len hsm
  have h2 := flat8 (fun i => filled_flen hsm n i) (List.range p.er.frs.length)
  have h3 : p.er.frs.length = p.frs.length := by simp [PtM.er]
  have h4 := hsm.fr
  rw [List.length_range] at h2
  have h5 : (if (whereA p.er n entry).2 = 7 ∧ entry ∉ (faultsP p.er).map Flt.name then [(⟨7, entry, 0, 0⟩ : Flx)] else []).length ≤ 1 := by split <;> simp
  unfold linkFl linkFl0
  rw [List.length_append, List.length_append, List.length_map]
  omega
theorem linkP_len (p : PtM) (base : Int) (entry : ByteArray) : (linkP p.er base entry).2.1.length ≤ 1021 := by
  unfold linkP
  split
  · simp
  · rename_i h1
    have h2 := linkE_zero (p := p.er) (base := base) (entry := entry) (by simpa using h1)
    split
    · exact linkFl_len (small_of h2.1) _ _
    · simp
end Go.Proofs.Ytbhjdinjoonngaa
