/- layout.Where: what it computes. -/
import Derived.Test.YtmlomnhjbmocfaaDoorLayE
import Derived.Test.YtmlomnhjbmocfaaDoorLayG
import Derived.Test.YtmlomnhjbmocfaaDoorSearchW
set_option linter.all false
namespace Go.Proofs.YtmlomnhjbmocfaaDoor
open Go.RowKit

theorem layR_zero {p : Prt} {base : Nat} (h : layE p base = 0) : layR p base = ⟨layFr p base, (layEnd p base).ns, (layEnd p base).cs, layFrom p base, layTo p base⟩ := by
  unfold layR
  rw [if_pos h]
  rfl
theorem lay_cells {p : PtM} {base : Nat} {l : LyM} (hr : l.r = layR p.er base) (h : layE p.er base = 0) : l.cells.toArray = #[(.slice l.fa p.frs.length l.fc), (.slice l.na (layEnd p.er base).ns.length l.nc), (.slice l.ca (layEnd p.er base).cs.length l.cc), (.int .i64 0), (.int .i64 (secFrom p.er.frs base 1 : Nat)), (.int .i64 (secFrom p.er.frs base 2 : Nat)), (.int .i64 (secFrom p.er.frs base 3 : Nat)), (.int .i64 (secFrom p.er.frs base 4 : Nat)), (.int .i64 (secFrom p.er.frs base 5 : Nat)), (.int .i64 0), (.int .i64 (toN p.er base 1 : Nat)), (.int .i64 (toN p.er base 2 : Nat)), (.int .i64 (toN p.er base 3 : Nat)), (.int .i64 (toN p.er base 4 : Nat)), (.int .i64 (toN p.er base 5 : Nat))] := by
  rw [layR_zero h] at hr
  have hl1 : (layFr p.er base).length = p.frs.length := by unfold layFr; simp [PtM.er]
  unfold LyM.cells
  rw [hr]
  simp only [hl1]
  rfl
theorem adrOf_le {fs : List Frg} (hl : Lays fs) {base k : Nat} (hb : base < 65536) {f : Frg} (hf : fs[k]? = some f) : adrOf fs base k ≤ 300000 := by
  obtain ⟨g, hg, h1, h2, _⟩ := first_get hf
  have h3 := hl.sect f (List.mem_of_getElem? hf)
  have h4 := hl.al0 (List.mem_of_getElem? hg)
  have hk : firstAt fs k ≤ fs.length := by have := (List.getElem?_eq_some_iff.1 hg).1; omega
  have h5 := posAt_le hl (base := base) (s := f.sect.toNat) (by omega) (by omega) hk hb
  have h6 := upN_lt (posAt fs g.sect (secFrom fs base f.sect.toNat) (firstAt fs k)) g.al h4.1
  rw [adrOf_eq _ hf, plcAt_eq _ hg]
  rw [show ((f.sect.toNat : Nat) : Int) = g.sect by rw [h1]; omega] at h5
  omega
theorem natsV_at {l : List Nat} {k n : Nat} (h : l[k]? = some n) : (natsV l)[k]? = some (.int .i64 n) := by simp [natsV, intsV, intV, h]

set_option maxHeartbeats 8000000 in
set_option maxRecDepth 100000 in
theorem where_any (p : PtM) (l : LyM) (base : Nat) (s : ByteArray) (w : World) (h : p.At w w.heap.size) (hl : l.At w w.heap.size) (hr : l.r = layR p.er base) (h0 : layE p.er base = 0) :
    Calls Tryd.prog 12 #[.agg #[.slice p.fa p.frs.length p.fc, .slice p.da p.dfs.length p.dc], .agg #[(.slice l.fa p.frs.length l.fc), (.slice l.na (layEnd p.er base).ns.length l.nc), (.slice l.ca (layEnd p.er base).cs.length l.cc), (.int .i64 0), (.int .i64 (secFrom p.er.frs base 1 : Nat)), (.int .i64 (secFrom p.er.frs base 2 : Nat)), (.int .i64 (secFrom p.er.frs base 3 : Nat)), (.int .i64 (secFrom p.er.frs base 4 : Nat)), (.int .i64 (secFrom p.er.frs base 5 : Nat)), (.int .i64 0), (.int .i64 (toN p.er base 1 : Nat)), (.int .i64 (toN p.er base 2 : Nat)), (.int .i64 (toN p.er base 3 : Nat)), (.int .i64 (toN p.er base 4 : Nat)), (.int .i64 (toN p.er base 5 : Nat))], .string s] w
      fun e w' => e = .returned (.tuple #[.int .i64 (whereA p.er base s).1, .int .i64 (whereA p.er base s).2]) ∧ Below w.heap.size w w' := by
  have hc := (layE_zero h0).1
  have hlen := lay_len hc base
  have hdl := setS_len (p.er.dfs.map Df.name)
  have hsm := small_of hc
  have hd6 := hsm.df
  rw [layR_zero h0] at hr
  have kP := (Blk.new w 25 #[.slice p.fa p.frs.length p.fc, .slice p.da p.dfs.length p.dc]).alloc (.cells #[(.slice l.fa p.frs.length l.fc), (.slice l.na (layEnd p.er base).ns.length l.nc), (.slice l.ca (layEnd p.er base).cs.length l.cc), (.int .i64 0), (.int .i64 (secFrom p.er.frs base 1 : Nat)), (.int .i64 (secFrom p.er.frs base 2 : Nat)), (.int .i64 (secFrom p.er.frs base 3 : Nat)), (.int .i64 (secFrom p.er.frs base 4 : Nat)), (.int .i64 (secFrom p.er.frs base 5 : Nat)), (.int .i64 0), (.int .i64 (toN p.er base 1 : Nat)), (.int .i64 (toN p.er base 2 : Nat)), (.int .i64 (toN p.er base 3 : Nat)), (.int .i64 (toN p.er base 4 : Nat)), (.int .i64 (toN p.er base 5 : Nat))] 30)
  have kL := Blk.new' (w.alloc (.cells #[.slice (p).fa (p).frs.length (p).fc, .slice (p).da (p).dfs.length (p).dc] 25)) 30 #[(.slice l.fa p.frs.length l.fc), (.slice l.na (layEnd p.er base).ns.length l.nc), (.slice l.ca (layEnd p.er base).cs.length l.cc), (.int .i64 0), (.int .i64 (secFrom p.er.frs base 1 : Nat)), (.int .i64 (secFrom p.er.frs base 2 : Nat)), (.int .i64 (secFrom p.er.frs base 3 : Nat)), (.int .i64 (secFrom p.er.frs base 4 : Nat)), (.int .i64 (secFrom p.er.frs base 5 : Nat)), (.int .i64 0), (.int .i64 (toN p.er base 1 : Nat)), (.int .i64 (toN p.er base 2 : Nat)), (.int .i64 (toN p.er base 3 : Nat)), (.int .i64 (toN p.er base 4 : Nat)), (.int .i64 (toN p.er base 5 : Nat))] (g := w.heap.size + 1) (by simp)
  have hb : Below w.heap.size w ((w.alloc (.cells #[.slice (p).fa (p).frs.length (p).fc, .slice (p).da (p).dfs.length (p).dc] 25)).alloc (.cells #[(.slice l.fa p.frs.length l.fc), (.slice l.na (layEnd p.er base).ns.length l.nc), (.slice l.ca (layEnd p.er base).cs.length l.cc), (.int .i64 0), (.int .i64 (secFrom p.er.frs base 1 : Nat)), (.int .i64 (secFrom p.er.frs base 2 : Nat)), (.int .i64 (secFrom p.er.frs base 3 : Nat)), (.int .i64 (secFrom p.er.frs base 4 : Nat)), (.int .i64 (secFrom p.er.frs base 5 : Nat)), (.int .i64 0), (.int .i64 (toN p.er base 1 : Nat)), (.int .i64 (toN p.er base 2 : Nat)), (.int .i64 (toN p.er base 3 : Nat)), (.int .i64 (toN p.er base 4 : Nat)), (.int .i64 (toN p.er base 5 : Nat))] 30)) := by (repeat' (first | exact Below.refl _ _ | assumption | refine Below.setCell ?_ (by first | omega | exact Below.size (by assumption) | (simp; done) | (simp; omega)) _ | refine Below.alloc ?_ (by first | omega | exact Below.size (by assumption) | (simp; done) | (simp; omega)) _ | refine Below.drew ?_ | refine below_drewN ?_ _))
  have h1 := h.all hb
  have h2 := hl.keep hb hb.size
  have HW : Hid (∀ d x, findP p.er s = (d, x) → whereA p.er base s = if x ≠ 0 then (0, x) else if d.kind = 3 then ((comAdr p.er base s : Int), 0) else ((adrOf p.er.frs base d.frag.toNat : Int) + d.at_, 0)) := by
    intro d x hdx
    unfold whereA
    rw [hdx]
  have n60 : (layEnd p.er base).ns.length ≤ 60 := by
    have e : (p.er.dfs.map Df.name).length = p.dfs.length := by simp [PtM.er]
    have := hlen.2
    unfold definedP at this
    omega
  have HLN := Lib.hid hlen.1
  clear hlen hdl hl h
  go_enter Tryd.func12, Tryd.ntmps12
  go_wp2_with fail
  obtain ⟨W0, hW0⟩ : ∃ W, W = (w.alloc (.cells #[.slice (p).fa (p).frs.length (p).fc, .slice (p).da (p).dfs.length (p).dc] 25)).alloc (.cells #[(.slice l.fa p.frs.length l.fc), (.slice l.na (layEnd p.er base).ns.length l.nc), (.slice l.ca (layEnd p.er base).cs.length l.cc), (.int .i64 0), (.int .i64 (secFrom p.er.frs base 1 : Nat)), (.int .i64 (secFrom p.er.frs base 2 : Nat)), (.int .i64 (secFrom p.er.frs base 3 : Nat)), (.int .i64 (secFrom p.er.frs base 4 : Nat)), (.int .i64 (secFrom p.er.frs base 5 : Nat)), (.int .i64 0), (.int .i64 (toN p.er base 1 : Nat)), (.int .i64 (toN p.er base 2 : Nat)), (.int .i64 (toN p.er base 3 : Nat)), (.int .i64 (toN p.er base 4 : Nat)), (.int .i64 (toN p.er base 5 : Nat))] 30) := ⟨_, rfl⟩
  rw [← hW0] at kP kL hb h1 h2 ⊢
  clear hW0
  obtain ⟨gL, hgL⟩ : ∃ g, g = w.heap.size + 1 := ⟨_, rfl⟩
  rw [← hgL] at kL ⊢
  clear hgL
  refine (findOut_any p s W0 h1).mono ?_
  rintro e w1 ⟨rfl, hb1⟩
  have kL := kL.all hb1
  have h2 := h2.keep hb1 hb1.size
  have hb := hb.trans (hb1.mono hb.size)
  clear kP h1 hb1
  obtain ⟨⟨d, x⟩, hdx⟩ : ∃ r, findP p.er s = r := ⟨_, rfl⟩
  have HR := Lib.hid (HW.out d x hdx)
  rw [hdx]
  dsimp only
  by_cases hx : x = 0
  · subst hx
    have hfd : findL p.er.dfs s = (d, 0) := by rw [← findP_good hc, hdx]
    have hct := counts_of hc hfd
    have kD := Blk.new w1 70 #[.string d.name, .int .i64 d.kind, .int .i64 d.frag, .int .i64 d.at_, .int .i64 d.size, .int .i64 d.align]
    have kL := kL.alloc (.cells #[.string (d).name, .int .i64 (d).kind, .int .i64 (d).frag, .int .i64 (d).at_, .int .i64 (d).size, .int .i64 (d).align] 70)
    have hb2 : Below w1.heap.size w1 (w1.alloc (.cells #[.string (d).name, .int .i64 (d).kind, .int .i64 (d).frag, .int .i64 (d).at_, .int .i64 (d).size, .int .i64 (d).align] 70)) := by (repeat' (first | exact Below.refl _ _ | assumption | refine Below.setCell ?_ (by first | omega | exact Below.size (by assumption) | (simp; done) | (simp; omega)) _ | refine Below.alloc ?_ (by first | omega | exact Below.size (by assumption) | (simp; done) | (simp; omega)) _ | refine Below.drew ?_ | refine below_drewN ?_ _))
    have h2 := h2.keep hb2 hb2.size
    have hb := hb.trans (hb2.mono hb.size)
    obtain ⟨gD, hgD⟩ : ∃ g, g = w1.heap.size := ⟨_, rfl⟩
    obtain ⟨W2, hW2⟩ : ∃ W, W = w1.alloc (.cells #[.string (d).name, .int .i64 (d).kind, .int .i64 (d).frag, .int .i64 (d).at_, .int .i64 (d).size, .int .i64 (d).align] 70) := ⟨_, rfl⟩
    go_upto_region 2 with (fail)
    rw [← hgD] at kD ⊢
    rw [← hW2] at kD kL hb2 h2 hb ⊢
    have hzs := hb2.size
    clear hW2 hgD hdx hb2
    have y1 := kD.cell 1
    by_cases h3 : d.kind = 3
    · have q3 : (d.kind == 3) = true := by simpa using h3
      have HR2 : Hid (whereA p.er base s = ((comAdr p.er base s : Int), 0)) := by show _ = _; rw [HR.out, if_neg (by simp), if_pos h3]
      have hin := lay_ns_in hc base hfd h3
      have y2 := kL.cell 1
      have y3 := kL.cell 2
      have hns := h2.ns
      have hcs := h2.cs
      rw [hr] at hns hcs
      have HS := lay_ns_rising p.er base
      have HSE := Lib.hid (search_any l.na l.nc (layEnd p.er base).ns s W2 hns HS (by omega))
      have HIN := Lib.hid hin
      clear h3 hfd hct HS hin hns
      go_wp2_with fail
      refine HSE.out.mono ?_
      rintro e w3 ⟨⟨k, f, rfl, hf, hk, hkl⟩, rfl⟩
      obtain rfl : f = true := by rw [hf]; exact decide_eq_true HIN.out
      have hkk := hk rfl
      have hk1 : k < (layEnd p.er base).cs.length := by rw [← HLN.out]; exact (List.getElem?_eq_some_iff.1 hkk).1
      obtain ⟨c, hcc⟩ : ∃ c, (layEnd p.er base).cs[k]? = some c := ⟨_, List.getElem?_eq_getElem hk1⟩
      have HA := Lib.hid (comAdr_eq hkk hcc)
      obtain ⟨b, off, u, hca, bl, hu, hcell⟩ := hcs.at_ hk1
      rw [natsV_at hcc] at hu
      injection hu with hu
      subst hu
      clear hf hk hkk hcc HSE HLN
      rw [hca]
      go_wp2_with fail
      go_ret2
      exact ⟨by rw [HR2.out, HA.out]; rfl, hb⟩
    · have q3 : (d.kind == 3) = false := by simpa using h3
      obtain ⟨f0, f1, f, hf, a0, a1⟩ := hct.at_ h3
      have HR2 : Hid (whereA p.er base s = ((adrOf p.er.frs base d.frag.toNat : Int) + d.at_, 0)) := by show _ = _; rw [HR.out, if_neg (by simp), if_neg h3]
      have hfr := h2.fr
      rw [hr] at hfr
      have hle : p.er.frs.length = p.frs.length := by simp [PtM.er]
      have hl1 : (layFr p.er base).length = p.frs.length := by unfold layFr; simp [PtM.er]
      have hfk : (layFr p.er base)[d.frag.toNat]? = some (adrOf p.er.frs base d.frag.toNat) := by
        unfold layFr
        rw [List.getElem?_map, List.getElem?_range (by omega)]
        rfl
      obtain ⟨b, off, u, hfa, bl, hu, hcell⟩ := hfr.at_ (k := d.frag.toNat) (by simp only; omega)
      rw [natsV_at hfk] at hu
      injection hu with hu
      subst hu
      have y2 := kD.cell 2
      have y3 := kD.cell 3
      have z0 := kL.cell 0
      have q4 : decide ((p.frs.length : Int) ≤ d.frag) = false := decide_eq_false (by omega)
      have hln := (lays_of hc).ln f (List.mem_of_getElem? hf)
      have ha : adrOf p.er.frs base d.frag.toNat ≤ 300000 := adrOf_le (lays_of hc) (by have := (layE_zero h0).2.2.1; omega) hf
      obtain ⟨m, hm⟩ : ∃ m : Nat, d.frag = m := ⟨d.frag.toNat, by omega⟩
      rw [hm] at y2 q4 f0 f1
      rw [show d.frag.toNat = m by omega] at hcell ha HR2
      have hm1 : m < p.frs.length := by omega
      have a2 : d.at_ ≤ 64 := by omega
      clear hm h3 hfd hct hf hfr hfk HR HW hle hl1 a1 hln f0 f1
      rw [hfa]
      go_wp2_with fail
      go_quiet (fail)
      go_wp2
      go_ret2
      exact ⟨by rw [HR2.out]; rfl, by (repeat' (first | exact Below.refl _ _ | assumption | refine Below.setCell ?_ (by first | omega | exact Below.size (by assumption) | (simp; done) | (simp; omega)) _ | refine Below.alloc ?_ (by first | omega | exact Below.size (by assumption) | (simp; done) | (simp; omega)) _ | refine Below.drew ?_ | refine below_drewN ?_ _))⟩
  · have hx0 : (x != 0) = true := by simpa using hx
    have HR2 : Hid (whereA p.er base s = (0, x)) := by show _ = _; rw [HR.out, if_pos hx]
    clear hx hdx
    go_wp2_with fail
    go_ret2
    exact ⟨by rw [HR2.out]; rfl, by (repeat' (first | exact Below.refl _ _ | assumption | refine Below.setCell ?_ (by first | omega | exact Below.size (by assumption) | (simp; done) | (simp; omega)) _ | refine Below.alloc ?_ (by first | omega | exact Below.size (by assumption) | (simp; done) | (simp; omega)) _ | refine Below.drew ?_ | refine below_drewN ?_ _))⟩
end Go.Proofs.YtmlomnhjbmocfaaDoor
