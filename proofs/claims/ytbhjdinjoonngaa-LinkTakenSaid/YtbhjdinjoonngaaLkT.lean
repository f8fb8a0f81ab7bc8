/- LkT: texts that belong together. -/
import Derived.Test.YtbhjdinjoonngaaArcI
import Derived.Test.YtbhjdinjoonngaaArcJ
import Derived.Test.YtbhjdinjoonngaaLinkL
import Derived.Test.YtbhjdinjoonngaaLinkW
import Derived.Test.YtbhjdinjoonngaaLkP
set_option linter.all false
/- Items among a row's arguments, opened. -/
namespace Go.Proofs.Ytbhjdinjoonngaa
open Go.RowKit Go.ChangeShapes Go.WideShapes Go.Deep Go.Joins
set_option maxRecDepth 100000

theorem Try.cellsBool : Try.prog.cellsOf 4 = 1 := by kernel_rfl
theorem Try.cellsParts : Try.prog.cellsOf 22 = 1 := by kernel_rfl
theorem Try.cellsItem : Try.prog.cellsOf 70 = 2 := by kernel_rfl
section
variable {H : Type} {enc : TypeId × Value → H} {w : World}
theorem opens_item : Opens enc Try.prog w 70 ItM.cells (fun x => x.Good w w.heap.size) := fun fuel cs x h => by
  obtain ⟨xs, n, _, _, hl, hxl, hf⟩ := DataW.trod_struct Try.underlying70 h
  rw [Try.cellsItem] at hl
  match cs, hl with
  | [v0, v1], _ =>
    match xs, hxl with
    | [y0, y1], _ =>
      obtain ⟨a, ea, _⟩ := opens_bool Try.underlying4 n _ y0 (by simpa [Try.cellsBool] using hf 0 _ rfl)
      obtain ⟨b, eb, ob⟩ := opens_slice (enc := enc) (w := w) Try.underlying22 Try.cellsPart (by decide) (fun _ => rfl) opens_part n _ y1 (by simpa [Try.cellsParts] using hf 1 _ rfl)
      simp only [List.cons.injEq, and_true, SliceIn.cells] at ea eb
      subst ea eb
      exact ⟨⟨a, b.l, b.A, b.c⟩, rfl, ⟨ob.reads, ob.each⟩, Nat.le_trans ob.cap ob.max⟩
theorem opens_items : Opens enc Try.prog w 71 (SliceIn.cells (α := ItM)) (SliceIn.Ok w ItM.cells (fun x => x.Good w w.heap.size) 2) :=
  opens_slice Try.underlying71 Try.cellsItem (by decide) (fun _ => rfl) opens_item
end
end Go.Proofs.Ytbhjdinjoonngaa

/- link.Items: what it answers. -/
namespace Go.Proofs.Ytbhjdinjoonngaa
open Go.RowKit

def itemsP (l : List Itm) (base : Int) (entry : ByteArray) : ImP × List Flx × Int :=
  if nameB entry = false then (⟨0, []⟩, [], 1)
  else if (chooseP l [entry]).2 ≠ 0 then (⟨0, []⟩, [], (chooseP l [entry]).2)
  else if (allP (chooseP l [entry]).1).2 ≠ 0 then (⟨0, []⟩, [], (allP (chooseP l [entry]).1).2)
  else linkP (allP (chooseP l [entry]).1).1 base entry
theorem items_name {l : List Itm} {base : Int} {entry : ByteArray} (h : nameB entry = false) : itemsP l base entry = (⟨0, []⟩, [], 1) := if_pos h
theorem items_choose {l : List Itm} {base : Int} {entry : ByteArray} {o : List Prt} {n : Int} (h : nameB entry = true) (hc : chooseP l [entry] = (o, n)) (hn : n ≠ 0) : itemsP l base entry = (⟨0, []⟩, [], n) := by
  unfold itemsP
  rw [if_neg (by simp [h]), hc, if_pos hn]
theorem items_all {l : List Itm} {base : Int} {entry : ByteArray} {o : List Prt} {p : Prt} {n : Int} (h : nameB entry = true) (hc : chooseP l [entry] = (o, 0)) (ha : allP o = (p, n)) (hn : n ≠ 0) : itemsP l base entry = (⟨0, []⟩, [], n) := by
  unfold itemsP
  rw [if_neg (by simp [h]), hc, if_neg (by simp), ha, if_pos hn]
theorem items_link {l : List Itm} {base : Int} {entry : ByteArray} {o : List Prt} {p : Prt} (h : nameB entry = true) (hc : chooseP l [entry] = (o, 0)) (ha : allP o = (p, 0)) : itemsP l base entry = linkP p base entry := by
  unfold itemsP
  rw [if_neg (by simp [h]), hc, if_neg (by simp), ha, if_neg (by simp)]

theorem Reads.off_ {w : World} {B size n : Nat} {A : Option Addr} {xs : List Value} {g j : Nat} (h : Reads w B size A n xs) (hne : 0 < n → ∀ off, A ≠ some ⟨g, off, none⟩) (u : Value) : Reads (w.setCell ⟨g, j, none⟩ u) B size A n xs := by
  refine ⟨h.1, fun hn => ?_⟩
  obtain ⟨b, off, e, hb, hc⟩ := h.2 hn
  have hbg : b ≠ g := fun e' => hne hn off (by rw [e, e'])
  exact ⟨b, off, e, hb, fun k v hv => (World.cell?_setCell_other w _ _ u (fun e' => hbg (by injection e' with e1 _ _; exact e1.symm))).trans (hc k v hv)⟩
theorem Reads.wide {w : World} {B size n : Nat} {A : Option Addr} {xs : List Value} {g : Nat} {t : TypeId} {c0 c1 : Value} (h : Reads w B size A n xs) (hs : 3 ≤ size) (hb : Blk w g t #[c0, c1]) : 0 < n → ∀ off, A ≠ some ⟨g, off, none⟩ := by
  intro hn off hA
  obtain ⟨b, off', e, _, hc⟩ := h.2 hn
  rw [hA] at e
  injection e with e
  injection e with e1 e2
  subst e1 e2
  have hl : 2 < xs.length := by
    rw [h.1]
    have := Nat.mul_le_mul hn hs
    omega
  have h2 := hc 2 _ (List.getElem?_eq_getElem hl)
  rw [hb.cell] at h2
  simp at h2
theorem Reads.bytes_ne {w : World} {B : Nat} {A : Option Addr} {bs : List UInt8} {g : Nat} {t : TypeId} {a : Int} {A' : Option Addr} {n' c' : Nat} (h : Reads w B 1 A bs.length (bytesV bs)) (hb : Blk w g t #[.int .i64 a, .slice A' n' c']) : 0 < bs.length → ∀ off, A ≠ some ⟨g, off, none⟩ := by
  intro hn off hA
  obtain ⟨b, off', e, _, hc⟩ := h.2 hn
  rw [hA] at e
  injection e with e
  injection e with e1 e2
  subst e1 e2
  rcases bs with _ | ⟨x, r⟩
  · simp at hn
  · have h2 := hc 0 _ (by simp [bytesV]; rfl)
    rw [hb.cell] at h2
    rcases off with _ | _ | off
    · simp [byteV] at h2
    · simp [byteV] at h2
    · simp at h2
theorem SegsAt.img {w : World} {A : Option Addr} {segs : List Seg} {g : Nat} {t : TypeId} {a : Int} {A' : Option Addr} {n' c' : Nat} (h : SegsAt w w.heap.size A segs) (hb : Blk w g t #[.int .i64 a, .slice A' n' c']) (u v : Value) : SegsAt ((w.setCell ⟨g, 0, none⟩ u).setCell ⟨g, 1, none⟩ v) ((w.setCell ⟨g, 0, none⟩ u).setCell ⟨g, 1, none⟩ v).heap.size A segs := by
  have e : ((w.setCell ⟨g, 0, none⟩ u).setCell ⟨g, 1, none⟩ v).heap.size = w.heap.size := by simp [World.setCell]
  rw [e]
  have h1 := h.row.wide (by omega) hb
  refine ⟨(h.row.off_ h1 u).off_ h1 v, fun s hs => ?_, h.small, h.smalls⟩
  have h2 := (h.each s hs).bytes_ne hb
  exact ((h.each s hs).off_ h2 u).off_ h2 v

theorem items1_any (n : Int) (w : World) : Calls Try.prog 111 #[.int .i64 n] w fun e w' => e = .returned (.tuple #[.agg #[.int .i64 0, .slice none 0 0], .slice none 0 0, .int .i64 n]) ∧ Below w.heap.size w w' := by
  go_enter Try.func111, Try.ntmps111
  go_wp2
  refine bodyPost_ret (v := .tuple #[.agg #[.int .i64 0, .slice none 0 0], .slice none 0 0, .int .i64 n]) (by simp [results, Try.results111, go_sem]) rfl ⟨rfl, by (repeat' (first | exact Below.refl _ _ | assumption | refine Below.setCell ?_ (by first | omega | exact Below.size (by assumption) | (simp; done) | (simp; omega)) _ | refine Below.alloc ?_ (by first | omega | exact Below.size (by assumption) | (simp; done) | (simp; omega)) _ | refine Below.drew ?_ | refine below_drewN ?_ _))⟩

set_option maxRecDepth 100000 in
set_option maxHeartbeats 20000000 in
theorem items_any (A : Option Addr) (c : Nat) (l : List ItM) (base : Int) (entry : ByteArray) (w : World) (h : ItsAt w w.heap.size A l) (hlm : l.length ≤ 9223372036854775807) :
    Calls Try.prog 61 #[.slice A l.length c, .int .i64 base, .string entry] w (LinkIs w (itemsP (l.map ItM.er) base entry)) := by
  have kI := Blk.new w 87 #[.int .i64 0, .slice none 0 0]
  have hB : Below w.heap.size w (w.alloc (.cells #[.int .i64 0, .slice none 0 0] 87)) := by (repeat' (first | exact Below.refl _ _ | assumption | refine Below.setCell ?_ (by first | omega | exact Below.size (by assumption) | (simp; done) | (simp; omega)) _ | refine Below.alloc ?_ (by first | omega | exact Below.size (by assumption) | (simp; done) | (simp; omega)) _ | refine Below.drew ?_ | refine below_drewN ?_ _))
  obtain ⟨W, hW⟩ : ∃ W', W' = w.alloc (.cells #[.int .i64 0, .slice none 0 0] 87) := ⟨_, rfl⟩
  obtain ⟨gI, hgI'⟩ : ∃ g, g = w.heap.size := ⟨_, rfl⟩
  have hgI : w.heap.size ≤ gI := by omega
  obtain ⟨L, hL⟩ : ∃ L, L = l.map ItM.er := ⟨_, rfl⟩
  rw [← hL]
  go_enter Try.func61, Try.ntmps61
  go_upto_region 2 with (fail)
  rw [← hgI'] at kI ⊢
  rw [← hW] at kI hB ⊢
  replace h := h.keep hB hB.size
  replace hL := Lib.hid hL
  clear hW hgI'
  by_cases hnm : nameB entry = false
  · have HP := Lib.hid (items_name (l := L) (base := base) hnm)
    go_wp2_with fail
    refine (name_any entry W).mono ?_
    rintro e w1 ⟨rfl, rfl⟩
    rw [hnm]
    clear hnm h
    (go_wp2_with fail; refine (items1_any 1 _).mono ?_; rintro e w9 ⟨rfl, hb9⟩; have kI9 := kI.all hb9; have i0 := kI9.cell 0; have i1 := kI9.cell 1; have f0 := kI9.frozen 0; have f1 := kI9.frozen 1; have kZ := (kI9.set_ 0 (.int .i64 0)).set_ 1 (.slice none 0 0); simp only [List.setIfInBounds_toArray, List.set_cons_zero, List.set_cons_succ] at kZ; have hB9 := ((hB.trans (hb9.mono hB.size)).setCell (p := ⟨gI, 0, none⟩) hgI (.int .i64 0)).setCell (p := ⟨gI, 1, none⟩) hgI (.slice none 0 0); go_wp2_with fail; have r0 := kZ.cell 0; have r1 := kZ.cell 1; refine bodyPost_ret (v := .tuple #[.agg #[.int .i64 0, .slice none 0 0], .slice none 0 0, .int .i64 (1)]) (by simp [results, Try.results61, go_sem, r0, r1]) rfl ?_; exact ⟨none, 0, [], none, 0, by rw [HP.out]; rfl, by rw [HP.out]; rfl, segsAt_nil _ _, by rw [HP.out]; exact Reads.none_, by rw [HP.out]; exact Nat.le_refl _, hB9⟩)
  · have hnt : nameB entry = true := by simpa using hnm
    clear hnm
    go_wp2_with fail
    refine (name_any entry W).mono ?_
    rintro e w1 ⟨rfl, rfl⟩
    rw [hnt]
    have HNT := Lib.hid hnt
    clear hnt
    go_wp2_with fail
    have ks := Blk.new W 9 #[.string entry]
    have hs : Below W.heap.size W (W.alloc (.cells #[.string entry] 9)) := by (repeat' (first | exact Below.refl _ _ | assumption | refine Below.setCell ?_ (by first | omega | exact Below.size (by assumption) | (simp; done) | (simp; omega)) _ | refine Below.alloc ?_ (by first | omega | exact Below.size (by assumption) | (simp; done) | (simp; omega)) _ | refine Below.drew ?_ | refine below_drewN ?_ _))
    replace kI := kI.all hs
    replace h := h.keep hs hs.size
    replace hB := hB.trans (hs.mono hB.size)
    obtain ⟨gS, hgS⟩ : ∃ g, g = W.heap.size := ⟨_, rfl⟩
    obtain ⟨W1, hW1⟩ : ∃ W', W' = W.alloc (.cells #[.string entry] 9) := ⟨_, rfl⟩
    rw [← hgS] at ks ⊢
    rw [← hW1] at ks kI h hB ⊢
    clear hW1 hgS hs
    have hfr : Reads W1 W1.heap.size 1 (some ⟨gS, 0, none⟩) [entry].length (strsV [entry]) := ks.reads (size := 1) (n := 1) rfl
    have HCH := Lib.hid (choose_any A (some ⟨gS, 0, none⟩) c 1 l [entry] W1 h hlm hfr (by simp))
    rw [← hL.out, show ([entry] : List ByteArray).length = 1 from rfl] at HCH
    clear hfr ks h
    refine HCH.out.mono ?_
    rintro e w2 ⟨z, qs, rfl, _, hq0, hb2⟩
    replace kI := kI.all hb2
    replace hB := hB.trans (hb2.mono hB.size)
    obtain ⟨⟨o, n⟩, ho⟩ : ∃ r, chooseP L [entry] = r := ⟨_, rfl⟩
    rw [ho] at hq0 ⊢
    dsimp only at hq0 ⊢
    have HO := Lib.hid ho
    clear ho HCH hb2
    by_cases hn : n = 0
    · subst hn
      obtain ⟨hev, hqe⟩ := hq0 rfl
      try dsimp only at hqe
      have hql := hev.hz
      obtain ⟨A2, c2, rfl, hc2, _⟩ := own_form hql
      have hpts : PtsAt w2 w2.heap.size A2 qs := ⟨Reads.of_own hql, fun q hq => (hev.each q hq).at_⟩
      have hqm : qs.length ≤ 9223372036854775807 := by omega
      have HAL := Lib.hid (all_any A2 c2 qs w2 hpts hqm)
      rw [hqe] at HAL
      clear hq0 hev hql hpts hqe hqm
      go_wp2_with fail
      refine HAL.out.mono ?_
      rintro e w3 ⟨p, rfl, hp, hpe, hb3⟩
      replace kI := kI.all hb3
      replace hB := hB.trans (hb3.mono hB.size)
      obtain ⟨⟨x, m⟩, hx⟩ : ∃ r, allP o = r := ⟨_, rfl⟩
      rw [hx] at hpe ⊢
      dsimp only at hpe ⊢
      have HX := Lib.hid hx
      have h1 := hp.at_
      clear hx HAL hb3 hp
      go_upto_region 8 with (fail)
      have kP := Blk.new w3 44 #[.slice p.fa p.frs.length p.fc, .slice p.da p.dfs.length p.dc]
      have hs : Below w3.heap.size w3 (w3.alloc (.cells #[.slice (p).fa (p).frs.length (p).fc, .slice (p).da (p).dfs.length (p).dc] 44)) := by (repeat' (first | exact Below.refl _ _ | assumption | refine Below.setCell ?_ (by first | omega | exact Below.size (by assumption) | (simp; done) | (simp; omega)) _ | refine Below.alloc ?_ (by first | omega | exact Below.size (by assumption) | (simp; done) | (simp; omega)) _ | refine Below.drew ?_ | refine below_drewN ?_ _))
      replace kI := kI.all hs
      replace h1 := h1.all hs
      replace hB := hB.trans (hs.mono hB.size)
      obtain ⟨gP, hgP⟩ : ∃ g, g = w3.heap.size := ⟨_, rfl⟩
      obtain ⟨W4, hW4⟩ : ∃ W', W' = w3.alloc (.cells #[.slice (p).fa (p).frs.length (p).fc, .slice (p).da (p).dfs.length (p).dc] 44) := ⟨_, rfl⟩
      rw [← hgP] at kP ⊢
      rw [← hW4] at kP kI h1 hB ⊢
      clear hW4 hgP hs
      by_cases hm : m = 0
      · subst hm
        have HP := Lib.hid (items_link (base := base) HNT.out HO.out HX.out)
        have p0 := kP.cell 0
        have p1 := kP.cell 1
        go_wp2_with fail
        refine (link_any p base entry W4 h1).mono ?_
        rintro e w5 ⟨A5, c5, segs, Au, cu, rfl, hm5, hsa, hfl, hcu, hb5⟩
        rw [hpe] at hm5 hfl hcu ⊢
        obtain ⟨⟨⟨en, sg⟩, fl, er⟩, hr⟩ : ∃ r, linkP x base entry = r := ⟨_, rfl⟩
        rw [hr] at hm5 hfl hcu ⊢
        dsimp only at hm5 hfl hcu ⊢
        replace kI := kI.all hb5
        replace hB := hB.trans (hb5.mono hB.size)
        have i0 := kI.cell 0
        have i1 := kI.cell 1
        have f0 := kI.frozen 0
        have f1 := kI.frozen 1
        have kZ := (kI.set_ 0 (.int .i64 en)).set_ 1 (.slice A5 segs.length c5)
        simp only [List.setIfInBounds_toArray, List.set_cons_zero, List.set_cons_succ] at kZ
        have hB9 := (hB.setCell (p := ⟨gI, 0, none⟩) hgI (.int .i64 en)).setCell (p := ⟨gI, 1, none⟩) hgI (.slice A5 segs.length c5)
        have hsa9 := hsa.img kI (.int .i64 en) (.slice A5 segs.length c5)
        have hfl9 : Reads ((w5.setCell ⟨gI, 0, none⟩ (.int .i64 en)).setCell ⟨gI, 1, none⟩ (.slice A5 segs.length c5)) w5.heap.size 4 Au fl.length (flxsV fl) := (hfl.off_ (hfl.wide (by omega) kI) _).off_ (hfl.wide (by omega) kI) _
        have HR := Lib.hid (HP.out.trans hr)
        clear hr hsa hfl hb5 kP p0 p1 h1
        go_wp2_with fail
        have r0 := kZ.cell 0
        have r1 := kZ.cell 1
        refine bodyPost_ret (v := .tuple #[.agg #[.int .i64 en, .slice A5 segs.length c5], .slice Au fl.length cu, .int .i64 er]) (by simp [results, Try.results61, go_sem, r0, r1]) rfl ?_
        unfold LinkIs
        rw [HR.out]
        exact ⟨A5, c5, segs, Au, cu, rfl, hm5, hsa9, hfl9.more (by simp [World.setCell]), hcu, hB9⟩
      · have hx0 : (m != 0) = true := by simpa using hm
        have HP := Lib.hid (items_all (base := base) HNT.out HO.out HX.out hm)
        clear hm kP h1 hpe
        (go_wp2_with fail; refine (items1_any m _).mono ?_; rintro e w9 ⟨rfl, hb9⟩; have kI9 := kI.all hb9; have i0 := kI9.cell 0; have i1 := kI9.cell 1; have f0 := kI9.frozen 0; have f1 := kI9.frozen 1; have kZ := (kI9.set_ 0 (.int .i64 0)).set_ 1 (.slice none 0 0); simp only [List.setIfInBounds_toArray, List.set_cons_zero, List.set_cons_succ] at kZ; have hB9 := ((hB.trans (hb9.mono hB.size)).setCell (p := ⟨gI, 0, none⟩) hgI (.int .i64 0)).setCell (p := ⟨gI, 1, none⟩) hgI (.slice none 0 0); go_wp2_with fail; have r0 := kZ.cell 0; have r1 := kZ.cell 1; refine bodyPost_ret (v := .tuple #[.agg #[.int .i64 0, .slice none 0 0], .slice none 0 0, .int .i64 (m)]) (by simp [results, Try.results61, go_sem, r0, r1]) rfl ?_; exact ⟨none, 0, [], none, 0, by rw [HP.out]; rfl, by rw [HP.out]; rfl, segsAt_nil _ _, by rw [HP.out]; exact Reads.none_, by rw [HP.out]; exact Nat.le_refl _, hB9⟩)
    · have hx0 : (n != 0) = true := by simpa using hn
      have HP := Lib.hid (items_choose (base := base) HNT.out HO.out hn)
      clear hn hq0
      (go_wp2_with fail; refine (items1_any n _).mono ?_; rintro e w9 ⟨rfl, hb9⟩; have kI9 := kI.all hb9; have i0 := kI9.cell 0; have i1 := kI9.cell 1; have f0 := kI9.frozen 0; have f1 := kI9.frozen 1; have kZ := (kI9.set_ 0 (.int .i64 0)).set_ 1 (.slice none 0 0); simp only [List.setIfInBounds_toArray, List.set_cons_zero, List.set_cons_succ] at kZ; have hB9 := ((hB.trans (hb9.mono hB.size)).setCell (p := ⟨gI, 0, none⟩) hgI (.int .i64 0)).setCell (p := ⟨gI, 1, none⟩) hgI (.slice none 0 0); go_wp2_with fail; have r0 := kZ.cell 0; have r1 := kZ.cell 1; refine bodyPost_ret (v := .tuple #[.agg #[.int .i64 0, .slice none 0 0], .slice none 0 0, .int .i64 (n)]) (by simp [results, Try.results61, go_sem, r0, r1]) rfl ?_; exact ⟨none, 0, [], none, 0, by rw [HP.out]; rfl, by rw [HP.out]; rfl, segsAt_nil _ _, by rw [HP.out]; exact Reads.none_, by rw [HP.out]; exact Nat.le_refl _, hB9⟩)
end Go.Proofs.Ytbhjdinjoonngaa

/- ropewalklaw.LinkTaken: the call returns true. -/
namespace Go.Proofs.Ytbhjdinjoonngaa
open Go.RowKit

theorem arch_mem {first : List ByteArray} {ps o : List Prt} {p : Prt} (h : p ∈ archP first ps o) : p ∈ o ∨ p ∈ ps := by
  obtain ⟨⟨r, hr, hl⟩, _⟩ := arch_end first ps o
  rw [hr] at h
  rcases List.mem_append.1 h with h | h
  · exact .inl h
  · obtain ⟨i, hi⟩ := List.mem_iff_getElem?.1 h
    exact .inr (hl i p hi).1
theorem chosen_mem {first : List ByteArray} {p : Prt} : ∀ (l : List Itm) (o : List Prt), p ∈ l.foldl (itemStep first) o → p ∈ o ∨ ∃ x ∈ l, p ∈ x.ps
  | [], _, h => .inl h
  | x :: r, o, h => by
    rw [List.foldl_cons] at h
    rcases chosen_mem r _ h with h1 | ⟨y, hy, hp⟩
    · unfold itemStep at h1
      split at h1
      · rcases arch_mem h1 with h2 | h2
        · exact .inl h2
        · exact .inr ⟨x, by simp, h2⟩
      · rcases List.mem_append.1 h1 with h2 | h2
        · exact .inl h2
        · exact .inr ⟨x, by simp, List.mem_of_mem_take h2⟩
    · exact .inr ⟨y, by simp [hy], hp⟩
theorem bare_choose {l : List Itm} {first : List ByteArray} {o : List Prt} (hc : chooseP l first = (o, 0)) (h12 : o.length ≤ 12) : chooseP (o.map fun p => (⟨false, [p]⟩ : Itm)) first = (o, 0) := by
  have hE : chooseE l first = 0 := by
    by_cases h : chooseE l first = 0
    · exact h
    · unfold chooseP at hc
      rw [if_pos h] at hc
      injection hc with _ h2
  rw [chooseP_ok hE] at hc
  injection hc with ho _
  have hk : ckItems l = 0 := by
    unfold chooseE at hE
    by_cases h : ckItems l = 0
    · exact h
    · rw [if_pos h] at hE; exact absurd hE h
  have hck : ∀ p ∈ o, ckPart p = 0 := fun p hp => by
    rw [← ho] at hp
    rcases chosen_mem l [] hp with h1 | ⟨x, hx, hpx⟩
    · simp at h1
    · exact (ckItem_zero ((ckItems_zero hk).2 x hx)).2.2 p hpx
  have hkb : ckItems (o.map fun p => (⟨false, [p]⟩ : Itm)) = 0 := by
    rw [ckItems_few (by rw [List.length_map]; omega)]
    refine firstBad_zero.2 fun n hn => ?_
    obtain ⟨x, hx, rfl⟩ := List.mem_map.1 hn
    obtain ⟨p, hp, rfl⟩ := List.mem_map.1 hx
    rw [ckItem_parts (by simp) (by simp)]
    refine firstBad_zero.2 fun n hn => ?_
    obtain rfl : n = ckPart p := by simpa using hn
    exact hck p hp
  have hE2 : chooseE (o.map fun p => (⟨false, [p]⟩ : Itm)) first = 0 := by
    unfold chooseE at hE ⊢
    rw [hk] at hE
    rw [hkb]
    exact hE
  have h1 := (plain_chosen (l := o) (first := first) (by rw [chooseP_ok hE2])).1
  rw [chooseP_ok hE2] at h1 ⊢
  rw [show chosenP _ _ = o from h1]
theorem taken_same {l : List Itm} {o : List Prt} {base : Int} {entry : ByteArray} (hc : chooseP l [entry] = (o, 0)) (h12 : o.length ≤ 12) : itemsP (o.map fun p => (⟨false, [p]⟩ : Itm)) base entry = itemsP l base entry := by
  unfold itemsP
  rw [bare_choose hc h12, hc]
theorem er_some (p : Prt) : ∃ q : PtM, q.er = p := by
  refine ⟨⟨p.frs.map fun f => ⟨f, none, 0, none, 0⟩, p.dfs, none, 0, none, 0⟩, ?_⟩
  unfold PtM.er
  simp only [List.map_map]
  obtain ⟨fr, df⟩ := p
  congr 1
  exact (List.map_congr_left (fun _ _ => rfl)).trans (List.map_id _)
theorem items_len (l : List Itm) (base : Int) (entry : ByteArray) : (itemsP l base entry).2.1.length ≤ 2000 := by
  unfold itemsP
  split
  · simp
  · split
    · simp
    · split
      · simp
      · obtain ⟨q, hq⟩ := er_some (allP (chooseP l [entry]).1).1
        have := linkP_len q base entry
        rw [hq] at this
        omega

set_option maxRecDepth 100000 in
set_option maxHeartbeats 20000000 in
theorem linkTaken_any (A : Option Addr) (c : Nat) (l : List ItM) (base : Int) (entry : ByteArray) (w : World) (h : ItsAt w w.heap.size A l) (hlm : l.length ≤ 9223372036854775807) :
    Calls Try.prog 12 #[.slice A l.length c, .int .i64 base, .string entry] w fun e w' => e = .returned (.bool true) ∧ Below w.heap.size w w' := by
  have HIT := Lib.hid (items_any A c l base entry w h hlm)
  obtain ⟨L, hL⟩ : ∃ L, L = l.map ItM.er := ⟨_, rfl⟩
  rw [← hL] at HIT
  replace hL := Lib.hid hL
  go_enter Try.func12, Try.ntmps12
  go_wp2_with fail
  refine HIT.out.mono ?_
  rintro e w1 ⟨A1, c1, segs, Au, cu, rfl, hm1, hsa, hfl, _, hb1⟩
  obtain ⟨⟨⟨en, sg⟩, fl, er⟩, hr⟩ : ∃ t, itemsP L base entry = t := ⟨_, rfl⟩
  rw [hr] at hm1 hfl ⊢
  dsimp only at hm1 hfl ⊢
  have hflm : fl.length ≤ 9223372036854775807 := by have := items_len L base entry; rw [hr] at this; simp only at this; omega
  have HR := Lib.hid hr
  clear hr HIT
  go_upto_region 2 with (fail)
  have kM := Blk.new w1 87 #[.int .i64 en, .slice A1 segs.length c1]
  have hx1 : Below w1.heap.size w1 (w1.alloc (.cells #[.int .i64 en, .slice A1 segs.length c1] 87)) := by (repeat' (first | exact Below.refl _ _ | assumption | refine Below.setCell ?_ (by first | omega | exact Below.size (by assumption) | (simp; done) | (simp; omega)) _ | refine Below.alloc ?_ (by first | omega | exact Below.size (by assumption) | (simp; done) | (simp; omega)) _ | refine Below.drew ?_ | refine below_drewN ?_ _))
  replace hsa := hsa.below hx1
  replace hfl := (hfl.below hx1).more hx1.size
  have hB := hb1.trans (hx1.mono hb1.size)
  obtain ⟨gM, hgM⟩ : ∃ g, g = w1.heap.size := ⟨_, rfl⟩
  obtain ⟨W2, hW2⟩ : ∃ W', W' = w1.alloc (.cells #[.int .i64 en, .slice A1 segs.length c1] 87) := ⟨_, rfl⟩
  rw [← hgM] at kM ⊢
  rw [← hW2] at hB kM hsa hfl ⊢
  clear hW2 hgM hx1 hb1
  replace h := h.keep hB hB.size
  go_wp2_with fail
  have ks := Blk.new W2 9 #[.string entry]
  have hs : Below W2.heap.size W2 (W2.alloc (.cells #[.string entry] 9)) := by (repeat' (first | exact Below.refl _ _ | assumption | refine Below.setCell ?_ (by first | omega | exact Below.size (by assumption) | (simp; done) | (simp; omega)) _ | refine Below.alloc ?_ (by first | omega | exact Below.size (by assumption) | (simp; done) | (simp; omega)) _ | refine Below.drew ?_ | refine below_drewN ?_ _))
  replace kM := kM.all hs
  replace hsa := hsa.below hs
  replace hfl := (hfl.below hs).more hs.size
  replace h := h.keep hs hs.size
  replace hB := hB.trans (hs.mono hB.size)
  obtain ⟨gS, hgS⟩ : ∃ g, g = W2.heap.size := ⟨_, rfl⟩
  obtain ⟨W3, hW3⟩ : ∃ W', W' = W2.alloc (.cells #[.string entry] 9) := ⟨_, rfl⟩
  rw [← hgS] at ks ⊢
  rw [← hW3] at ks kM hsa hfl h hB ⊢
  clear hW3 hgS hs
  have hfr : Reads W3 W3.heap.size 1 (some ⟨gS, 0, none⟩) [entry].length (strsV [entry]) := ks.reads (size := 1) (n := 1) rfl
  have HCH := Lib.hid (choose_any A (some ⟨gS, 0, none⟩) c 1 l [entry] W3 h hlm hfr (by simp))
  rw [← hL.out, show ([entry] : List ByteArray).length = 1 from rfl] at HCH
  clear hfr ks h
  refine HCH.out.mono ?_
  rintro e w4 ⟨z, qs, rfl, _, hq0, hb4⟩
  replace kM := kM.all hb4
  replace hsa := hsa.below hb4
  replace hfl := (hfl.below hb4).more hb4.size
  replace hB := hB.trans (hb4.mono hB.size)
  obtain ⟨⟨o, n⟩, ho⟩ : ∃ r, chooseP L [entry] = r := ⟨_, rfl⟩
  rw [ho] at hq0 ⊢
  dsimp only at hq0 ⊢
  have HO := Lib.hid ho
  clear ho HCH hb4
  go_wp2_with fail
  refine (linked_any w4).mono ?_
  rintro e w5 ⟨rfl, hb5⟩
  have kM5 := kM.all hb5
  have hsa5 := hsa.below hb5
  have hfl5 := (hfl.below hb5).more hb5.size
  have hB5 := hB.trans (hb5.mono hB.size)
  clear kM hsa hfl
  by_cases her : er = 0
  · subst her
    by_cases hn : n = 0
    · subst hn
      obtain ⟨hev, hqe⟩ := hq0 rfl
      replace hev := hev.all hb5
      obtain ⟨A2, c2, rfl, hc2, _⟩ := own_form hev.hz
      by_cases h12 : 12 < qs.length
      · have q1 : decide ((12 : Int) < (qs.length : Int)) = true := decide_eq_true (by omega)
        clear hev hqe hq0
        go_wp2_with fail
        refine (linked_any w5).mono ?_
        rintro e w6 ⟨rfl, hb6⟩
        go_wp2
        go_ret
        exact ⟨rfl, hB5.trans (hb6.mono hB5.size)⟩
      · have q1 : decide ((12 : Int) < (qs.length : Int)) = false := decide_eq_false (by omega)
        have hpts : PtsAt w5 w5.heap.size A2 qs := ⟨Reads.of_own hev.hz, fun q hq => (hev.each q hq).at_⟩
        have HQE := Lib.hid hqe
        have hrow := hpts.row
        have HPA := Lib.hid hpts.each
        have HTS : Hid (itemsP (o.map fun p => (⟨false, [p]⟩ : Itm)) base entry = (⟨en, sg⟩, fl, 0)) := (taken_same HO.out (by rw [← hqe, List.length_map]; omega)).trans HR.out
        obtain ⟨m, hmq⟩ : ∃ m, m = qs.length := ⟨_, rfl⟩
        have hm12 : m ≤ 12 := by omega
        rw [← hmq] at q1 ⊢
        have HMQ := Lib.hid hmq
        clear hev hqe hq0 hb5 h12 hpts hc2 hmq
        go_wp2_with fail
        go_loopw [12, 50] (fun v i wr => ∃ (k : Nat) (its : List ItM), k ≤ m ∧ i = .int .i64 k ∧ IO w5 wr v (qs.take k) its) (fun _ i _ => m - (intOf i).toNat)
        case atStart => exact ⟨0, [], Nat.zero_le _, rfl, ⟨World.ownsRow_nil _ _ _ _, fun x hx => absurd hx (by simp), rfl, Below.refl _ _⟩⟩
        case round =>
          obtain ⟨k, its, hk, rfl, hIO⟩ := hrel
          have hil := hIO.len
          rw [List.length_take, ← HMQ.out, Nat.min_eq_left hk] at hil
          have hil12 : its.length ≤ 12 := by omega
          have HIL := Lib.hid hil
          clear hil
          obtain ⟨Ai, ci, rfl, hic, hix⟩ := own_form hIO.row
          by_cases hlt : k < m
          · obtain ⟨p, hp⟩ : ∃ p, qs[k]? = some p := ⟨_, List.getElem?_eq_getElem (by have := HMQ.out; omega)⟩
            obtain ⟨b, off, rfl, bl, c0, c1⟩ := pt_get (hrow.below hIO.hB) hp
            have HTK : Hid (qs.take (k + 1) = qs.take k ++ [p]) := by show _ = _; rw [List.take_add_one, hp]; rfl
            clear hp
            go_upto_region 9 with (fail)
            have kQ := Blk.new wr 44 #[.slice p.fa p.frs.length p.fc, .slice p.da p.dfs.length p.dc]
            have hbx : Below wr.heap.size wr (wr.alloc (.cells #[.slice (p).fa (p).frs.length (p).fc, .slice (p).da (p).dfs.length (p).dc] 44)) := by (repeat' (first | exact Below.refl _ _ | assumption | refine Below.setCell ?_ (by first | omega | exact Below.size (by assumption) | (simp; done) | (simp; omega)) _ | refine Below.alloc ?_ (by first | omega | exact Below.size (by assumption) | (simp; done) | (simp; omega)) _ | refine Below.drew ?_ | refine below_drewN ?_ _))
            replace hIO := hIO.all hbx
            obtain ⟨gQ, hgQ⟩ : ∃ g, g = wr.heap.size := ⟨_, rfl⟩
            obtain ⟨W6, hW6⟩ : ∃ W, W = wr.alloc (.cells #[.slice (p).fa (p).frs.length (p).fc, .slice (p).da (p).dfs.length (p).dc] 44) := ⟨_, rfl⟩
            rw [← hgQ] at kQ ⊢
            rw [← hW6] at kQ hIO ⊢
            clear hW6 hgQ hbx c0 c1
            have x0 := kQ.cell 0
            have x1 := kQ.cell 1
            obtain ⟨i0, hi, hiz, his, hib⟩ := info_parts Try.infoItms
            go_wp2_with (at_builtin
                         refine wpList_append_own _ rfl (.tmp 54) (.tmp 58) 71 rfl w5.heap.size 70 i0 _ 2 32 Try.underlying71 hi hiz his hib rfl (by decide) _ _ _ rfl ((hIO.row.alloc _).alloc _) ⟨W6.heap.size + 1, 0, none⟩ 1 1 [.bool false, .slice (some ⟨W6.heap.size, 0, none⟩) 1 1] rfl rfl ?c1 ?c2 ?c3 ?c4 ?c5 ?_
                         case c1 => exact fun j u hu => cells_newg (by simp) j u hu
                         case c2 => exact it_one ⟨false, [p], some ⟨W6.heap.size, 0, none⟩, 1⟩
                         case c3 => unfold maxLen; omega
                         case c4 => omega
                         case c5 => have := hIO.hB.size; simp; omega
                         intro v' w6 hown6 hg6 _
                         have hst : Below W6.heap.size W6 ((W6.alloc (.cells #[.slice p.fa p.frs.length p.fc, .slice p.da p.dfs.length p.dc] 44)).alloc (.cells #[.bool false, .slice (some ⟨W6.heap.size, 0, none⟩) 1 1] 70)) := ((Below.refl _ _).alloc (Nat.le_refl _) _).alloc (by simp <;> omega) _
                         have hop := own_of_blk ((Blk.new W6 44 #[.slice p.fa p.frs.length p.fc, .slice p.da p.dfs.length p.dc]).alloc (.cells #[.bool false, .slice (some ⟨W6.heap.size, 0, none⟩) 1 1] 70)) (base := w5.heap.size) (size := 2) (n := 1) hIO.hB.size rfl (by omega)
                         have hIO6 := (hIO.all hst).push (p := p) (x := ⟨false, [p], some ⟨W6.heap.size, 0, none⟩, 1⟩) rfl rfl hop hown6 hg6
                         rw [← HTK.out] at hIO6
                         clear hst hg6 hown6 hop)
            go_roundw
            case rel => exact ⟨k + 1, its ++ [⟨false, [p], some ⟨W6.heap.size, 0, none⟩, 1⟩], by omega, by go_num, hIO6⟩
            case measure => simp [intOf]; omega
          · obtain rfl : m = k := by omega
            rw [List.take_of_length_le (by rw [HMQ.out]; exact Nat.le_refl _)] at hIO
            have hits : ItsAt wr wr.heap.size Ai its := ⟨Reads.of_own hIO.row, hIO.at_ HPA.out⟩
            have HIT := Lib.hid (items_any Ai ci its base entry wr hits (by omega))
            have hers : its.map ItM.er = o.map fun p => ⟨false, [p]⟩ := by rw [hIO.ers, ← HQE.out, List.map_map]; rfl
            rw [hers, HTS.out] at HIT
            replace kM5 := kM5.all hIO.hB
            replace hsa5 := hsa5.below hIO.hB
            replace hfl5 := (hfl5.below hIO.hB).more hIO.hB.size
            have hB6 := hB5.trans (hIO.hB.mono hB5.size)
            clear hers hits hIO hrow
            go_wp2_with fail
            refine HIT.out.mono ?_
            rintro e w7 ⟨A7, c7, segs', Au7, cu7, rfl, hm7, hsa7, hfl7, _, hb7⟩
            dsimp only at hm7 hfl7 ⊢
            replace kM5 := kM5.all hb7
            replace hsa5 := hsa5.below hb7
            replace hfl5 := (hfl5.below hb7).more hb7.size
            replace hB6 := hB6.trans (hb7.mono hB6.size)
            have HSE := Lib.hid (sgsEq_er (hm1.trans hm7.symm))
            clear hb7 HIT
            go_upto_region 12 with (fail)
            have hx1 : Below w7.heap.size w7 (w7.alloc (.cells #[.int .i64 en, .slice A7 segs'.length c7] 87)) := by (repeat' (first | exact Below.refl _ _ | assumption | refine Below.setCell ?_ (by first | omega | exact Below.size (by assumption) | (simp; done) | (simp; omega)) _ | refine Below.alloc ?_ (by first | omega | exact Below.size (by assumption) | (simp; done) | (simp; omega)) _ | refine Below.drew ?_ | refine below_drewN ?_ _))
            have kN := Blk.new w7 87 #[.int .i64 en, .slice A7 segs'.length c7]
            replace hsa5 := hsa5.below hx1
            replace hsa7 := hsa7.below hx1
            replace hfl5 := (hfl5.below hx1).more hx1.size
            replace hfl7 := (hfl7.below hx1).more hx1.size
            replace kM5 := kM5.all hx1
            replace hB6 := hB6.trans (hx1.mono hB6.size)
            obtain ⟨gN, hgN⟩ : ∃ g, g = w7.heap.size := ⟨_, rfl⟩
            obtain ⟨W8, hW8⟩ : ∃ W', W' = w7.alloc (.cells #[.int .i64 en, .slice A7 segs'.length c7] 87) := ⟨_, rfl⟩
            rw [← hgN] at kN ⊢
            rw [← hW8] at hsa5 hsa7 hfl5 hfl7 kM5 kN hB6 ⊢
            clear hW8 hgN hx1
            have m0 := kM5.cell 0
            have m1 := kM5.cell 1
            have n0 := kN.cell 0
            have n1 := kN.cell 1
            have HSM := Lib.hid (linkSame_any en en A1 A7 c1 c7 segs segs' W8 hsa5 hsa7)
            have HFM := Lib.hid (fun W (hW : Below W8.heap.size W8 W) => equalFlxs_any Au Au7 cu cu7 fl fl W ((hfl5.below hW).more hW.size) ((hfl7.below hW).more hW.size))
            have hbig : fl.length ≤ 9223372036854775807 := hflm
            go_wp2_with (first
              | (go_at_call 62; refine HSM.out.mono ?_; rintro e w9 ⟨he, hb9⟩; rw [HSE.out, decide_eq_true rfl] at he; subst he)
              | (go_at_call 52; refine (HFM.out _ hb9 hbig).mono ?_; rintro e w10 ⟨he, hb10⟩; rw [show (fl == fl) = true from by simp] at he; subst he))
            go_ret
            exact ⟨rfl, hB6.trans ((hb9.trans (hb10.mono hb9.size)).mono hB6.size)⟩
    · have hx0 : (n != 0) = true := by simpa using hn
      clear hn hq0
      go_wp2_with fail
      refine (linked_any w5).mono ?_
      rintro e w6 ⟨rfl, hb6⟩
      go_wp2
      go_ret
      exact ⟨rfl, hB5.trans (hb6.mono hB5.size)⟩
  · have hx0 : (er != 0) = true := by simpa using her
    clear her hq0
    go_wp2_with fail
    refine (linked_any w5).mono ?_
    rintro e w6 ⟨rfl, hb6⟩
    go_wp2
    go_ret
    exact ⟨rfl, hB5.trans (hb6.mono hB5.size)⟩
end Go.Proofs.Ytbhjdinjoonngaa
