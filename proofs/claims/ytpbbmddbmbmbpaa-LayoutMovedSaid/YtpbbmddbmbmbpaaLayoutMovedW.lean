/- ropewalklaw.LayoutMoved: the call returns true. -/
import Derived.Test.YtpbbmddbmbmbpaaLaidF
import Derived.Test.YtpbbmddbmbmbpaaAt
import Derived.Test.YtpbbmddbmbmbpaaIndexS
namespace Go.Proofs.Ytpbbmddbmbmbpaa
open Go.RowKit

theorem toN_moved {p : Prt} (hc : ckPart p = 0) (base m : Nat) (hm : 16 ∣ m) (s : Nat) : toN p (base + m) s = toN p base s + m := by
  unfold toN
  split
  · rw [layEnd_moved hc _ _ hm]
  · exact secEnd_moved (lays_of hc) _ _ hm _
theorem secFrom_le {p : Prt} {base s : Nat} (hc : ckPart p = 0) (h : base < 65536) (hs1 : 1 ≤ s) (hs : s ≤ 5) : secFrom p.frs base s ≤ 200000 := posAt_le (lays_of hc) hs1 hs (Nat.zero_le _) h
theorem toN_le {p : Prt} {base s : Nat} (hc : ckPart p = 0) (h : layE p base = 0) (hs : s ≤ 5) : toN p base s ≤ 200000 := by
  have h1 := layE_zero h
  unfold toN
  split
  · have := h1.2.2.2
    have e : (base : Int).toNat = base := by omega
    rw [e] at this
    omega
  · have := secEnd_le (lays_of hc) base s
    omega
theorem cs_le {p : Prt} {base k c : Nat} (h : layE p base = 0) (hk : (layEnd p base).cs[k]? = some c) : c ≤ 65536 := by
  obtain ⟨hc, _, _, h3⟩ := layE_zero h
  have e : (base : Int).toNat = base := by omega
  rw [e] at h3
  have hl := lay_len hc base
  obtain ⟨hk1, hv⟩ := List.getElem?_eq_some_iff.1 hk
  have hk2 : k < (layEnd p base).ns.length := by omega
  obtain ⟨d, _, _, _, _, h5, _⟩ := (com_at (comOk_of hc) _ (definedP p)).each k ((layEnd p base).ns[k]'hk2) c (List.getElem?_eq_getElem hk2) hk
  have e2 : (comAt p.dfs (secEnd p.frs base 5) (definedP p)).at_ = (layEnd p base).at_ := rfl
  omega
theorem lay_cells_bad {p : Prt} {base : Int} {l : LyM} (hr : l.r = layR p base) (h : layE p base ≠ 0) : l.cells.toArray = #[.slice (l).fa 0 (l).fc, .slice (l).na 0 (l).nc, .slice (l).ca 0 (l).cc, .int .i64 0, .int .i64 0, .int .i64 0, .int .i64 0, .int .i64 0, .int .i64 0, .int .i64 0, .int .i64 0, .int .i64 0, .int .i64 0, .int .i64 0, .int .i64 0] := by
  unfold layR at hr
  rw [if_neg h] at hr
  unfold LyM.cells
  rw [hr]
  rfl
theorem lyx_from {v1 v2 v3 : Value} {f t : Nat → Nat} {s : Nat} (h1 : 1 ≤ s) (h5 : s ≤ 5) : (#[v1, v2, v3, .int .i64 0, .int .i64 (f 1 : Nat), .int .i64 (f 2 : Nat), .int .i64 (f 3 : Nat), .int .i64 (f 4 : Nat), .int .i64 (f 5 : Nat), .int .i64 0, .int .i64 (t 1 : Nat), .int .i64 (t 2 : Nat), .int .i64 (t 3 : Nat), .int .i64 (t 4 : Nat), .int .i64 (t 5 : Nat)] : Array Value)[3 + s]? = some (.int .i64 (f s : Nat)) := by
  match s, h1, h5 with
  | 1, _, _ => rfl
  | 2, _, _ => rfl
  | 3, _, _ => rfl
  | 4, _, _ => rfl
  | 5, _, _ => rfl
theorem lyx_to {v1 v2 v3 : Value} {f t : Nat → Nat} {s : Nat} (h1 : 1 ≤ s) (h5 : s ≤ 5) : (#[v1, v2, v3, .int .i64 0, .int .i64 (f 1 : Nat), .int .i64 (f 2 : Nat), .int .i64 (f 3 : Nat), .int .i64 (f 4 : Nat), .int .i64 (f 5 : Nat), .int .i64 0, .int .i64 (t 1 : Nat), .int .i64 (t 2 : Nat), .int .i64 (t 3 : Nat), .int .i64 (t 4 : Nat), .int .i64 (t 5 : Nat)] : Array Value)[9 + s]? = some (.int .i64 (t s : Nat)) := by
  match s, h1, h5 with
  | 1, _, _ => rfl
  | 2, _, _ => rfl
  | 3, _, _ => rfl
  | 4, _, _ => rfl
  | 5, _, _ => rfl

set_option maxHeartbeats 20000000 in
set_option maxRecDepth 100000 in
theorem layoutMoved_any (p : PtM) (base times : Int) (w : World) (h : p.At w w.heap.size) (ht0 : -9223372036854775808 ≤ times) (ht1 : times ≤ 9223372036854775807) :
    Calls Try.prog 6 #[.agg #[.slice p.fa p.frs.length p.fc, .slice p.da p.dfs.length p.dc], .int .i64 base, .int .i64 times] w fun e w' => e = .returned (.bool true) ∧ Below w.heap.size w w' := by
  have kP := Blk.new w 44 #[.slice p.fa p.frs.length p.fc, .slice p.da p.dfs.length p.dc]
  have hb : Below w.heap.size w (w.alloc (.cells #[.slice (p).fa (p).frs.length (p).fc, .slice (p).da (p).dfs.length (p).dc] 44)) := by (repeat' (first | exact Below.refl _ _ | assumption | refine Below.setCell ?_ (by first | omega | exact Below.size (by assumption) | (simp; done) | (simp; omega)) _ | refine Below.alloc ?_ (by first | omega | exact Below.size (by assumption) | (simp; done) | (simp; omega)) _ | refine Below.drew ?_ | refine below_drewN ?_ _))
  have h1 := h.all hb
  have HAT := Lib.hid (at_any times 100 · (by omega) (by omega) ht0 ht1)
  clear ht0 ht1 h
  go_enter Try.func6, Try.ntmps6
  go_wp2_with fail
  obtain ⟨gP, hgP⟩ : ∃ g, g = w.heap.size := ⟨_, rfl⟩
  obtain ⟨W, hW⟩ : ∃ W, W = w.alloc (.cells #[.slice (p).fa (p).frs.length (p).fc, .slice (p).da (p).dfs.length (p).dc] 44) := ⟨_, rfl⟩
  rw [show Blk (w.alloc (.cells #[.slice (p).fa (p).frs.length (p).fc, .slice (p).da (p).dfs.length (p).dc] 44)) w.heap.size = Blk W gP by rw [hW, hgP]] at kP
  rw [← hgP]
  rw [← hW] at hb h1 ⊢
  clear hW hgP
  refine (lay_any p base W h1).mono ?_
  rintro e w1 ⟨l, rfl, hr, hl, hb1⟩
  have kP := kP.all hb1
  have hA := h1.all hb1
  have hb := hb.trans (hb1.mono hb.size)
  clear h1 hb1
  by_cases h0 : layE p.er base = 0
  · obtain ⟨hc, hb0, hb1, _⟩ := layE_zero h0
    obtain ⟨n, rfl⟩ : ∃ n : Nat, base = n := ⟨base.toNat, by omega⟩
    have hlc := lay_cells hr h0
    rw [h0, hlc]
    have HR := Lib.hid ((hr.trans (layR_zero h0)))
    have H0 := Lib.hid h0
    have HC := Lib.hid hc
    clear hr h0 hlc hc
    go_upto_region 2 with (fail)
    have kL := Blk.new w1 67 #[(.slice l.fa p.frs.length l.fc), (.slice l.na (layEnd p.er n).ns.length l.nc), (.slice l.ca (layEnd p.er n).cs.length l.cc), (.int .i64 0), (.int .i64 (secFrom p.er.frs n 1 : Nat)), (.int .i64 (secFrom p.er.frs n 2 : Nat)), (.int .i64 (secFrom p.er.frs n 3 : Nat)), (.int .i64 (secFrom p.er.frs n 4 : Nat)), (.int .i64 (secFrom p.er.frs n 5 : Nat)), (.int .i64 0), (.int .i64 (toN p.er n 1 : Nat)), (.int .i64 (toN p.er n 2 : Nat)), (.int .i64 (toN p.er n 3 : Nat)), (.int .i64 (toN p.er n 4 : Nat)), (.int .i64 (toN p.er n 5 : Nat))]
    have hb2 : Below w1.heap.size w1 (w1.alloc (.cells #[(.slice l.fa p.frs.length l.fc), (.slice l.na (layEnd p.er n).ns.length l.nc), (.slice l.ca (layEnd p.er n).cs.length l.cc), (.int .i64 0), (.int .i64 (secFrom p.er.frs n 1 : Nat)), (.int .i64 (secFrom p.er.frs n 2 : Nat)), (.int .i64 (secFrom p.er.frs n 3 : Nat)), (.int .i64 (secFrom p.er.frs n 4 : Nat)), (.int .i64 (secFrom p.er.frs n 5 : Nat)), (.int .i64 0), (.int .i64 (toN p.er n 1 : Nat)), (.int .i64 (toN p.er n 2 : Nat)), (.int .i64 (toN p.er n 3 : Nat)), (.int .i64 (toN p.er n 4 : Nat)), (.int .i64 (toN p.er n 5 : Nat))] 67)) := by (repeat' (first | exact Below.refl _ _ | assumption | refine Below.setCell ?_ (by first | omega | exact Below.size (by assumption) | (simp; done) | (simp; omega)) _ | refine Below.alloc ?_ (by first | omega | exact Below.size (by assumption) | (simp; done) | (simp; omega)) _ | refine Below.drew ?_ | refine below_drewN ?_ _))
    have kP := kP.all hb2
    have hA := hA.all hb2
    have hl := hl.keep hb2 hb2.size
    have hb := hb.trans (hb2.mono hb.size)
    obtain ⟨gL, hgL⟩ : ∃ g, g = w1.heap.size := ⟨_, rfl⟩
    obtain ⟨W2, hW2⟩ : ∃ W', W' = w1.alloc (.cells #[(.slice l.fa p.frs.length l.fc), (.slice l.na (layEnd p.er n).ns.length l.nc), (.slice l.ca (layEnd p.er n).cs.length l.cc), (.int .i64 0), (.int .i64 (secFrom p.er.frs n 1 : Nat)), (.int .i64 (secFrom p.er.frs n 2 : Nat)), (.int .i64 (secFrom p.er.frs n 3 : Nat)), (.int .i64 (secFrom p.er.frs n 4 : Nat)), (.int .i64 (secFrom p.er.frs n 5 : Nat)), (.int .i64 0), (.int .i64 (toN p.er n 1 : Nat)), (.int .i64 (toN p.er n 2 : Nat)), (.int .i64 (toN p.er n 3 : Nat)), (.int .i64 (toN p.er n 4 : Nat)), (.int .i64 (toN p.er n 5 : Nat))] 67) := ⟨_, rfl⟩
    rw [← hgL] at kL ⊢
    rw [← hW2] at kL kP hA hl hb ⊢
    clear hW2 hgL hb2
    go_wp2_with fail
    refine (laid_any W2).mono ?_
    rintro e w3 ⟨rfl, hb3⟩
    have kP := kP.all hb3
    have hA := hA.all hb3
    have hl := hl.keep hb3 hb3.size
    have kL := kL.all hb3
    have hb := hb.trans (hb3.mono hb.size)
    clear hb3
    go_wp2_with fail
    refine (HAT.out w3).mono ?_
    rintro e w4 ⟨rfl, rfl⟩
    obtain ⟨t, ht⟩ : ∃ t : Nat, times % 100 = t := ⟨(times % 100).toNat, by omega⟩
    have ht99 : t ≤ 99 := by omega
    rw [ht]
    clear ht HAT
    have HM := Lib.hid (lay_moved (m := 16 * t) (by omega) H0.out)
    have hcast : ((n : Int) + ((16 * t : Nat) : Int)) = (n : Int) + 16 * (t : Int) := by omega
    rw [hcast] at HM
    clear hcast
    have q0 := kP.cell 0
    have q1 := kP.cell 1
    go_wp2_with fail
    refine (lay_any p ((n : Int) + 16 * (t : Int)) w4 hA).mono ?_
    rintro e w5 ⟨m, rfl, hmr, hm, hb5⟩
    have kL := kL.all hb5
    have hl := hl.keep hb5 hb5.size
    have hb := hb.trans (hb5.mono hb.size)
    clear hb5 kP q0 q1 hA
    by_cases h0 : layE p.er ((n : Int) + 16 * (t : Int)) = 0
    · rw [h0]
      have e : ((n : Int) + 16 * (t : Int)) = ((n + 16 * t : Nat) : Int) := by omega
      rw [e] at hmr h0
      have hmc := lay_cells hmr h0
      have hdv : 16 ∣ 16 * t := Nat.dvd_mul_right _ _
      have hE := layEnd_moved HC.out n (16 * t) hdv
      rw [show (layEnd p.er (n + 16 * t)).ns.length = (layEnd p.er n).ns.length by rw [hE], show (layEnd p.er (n + 16 * t)).cs.length = (layEnd p.er n).cs.length by rw [hE]; simp] at hmc
      rw [hmc]
      have HS := Lib.hid (hmr.trans (layR_zero h0))
      have HE := Lib.hid hE
      clear hmr hmc e hE hdv h0 HM
      go_upto_region 6 with (fail)
      have kM := Blk.new w5 67 #[(.slice m.fa p.frs.length m.fc), (.slice m.na (layEnd p.er n).ns.length m.nc), (.slice m.ca (layEnd p.er n).cs.length m.cc), (.int .i64 0), (.int .i64 (secFrom p.er.frs (n + 16 * t) 1 : Nat)), (.int .i64 (secFrom p.er.frs (n + 16 * t) 2 : Nat)), (.int .i64 (secFrom p.er.frs (n + 16 * t) 3 : Nat)), (.int .i64 (secFrom p.er.frs (n + 16 * t) 4 : Nat)), (.int .i64 (secFrom p.er.frs (n + 16 * t) 5 : Nat)), (.int .i64 0), (.int .i64 (toN p.er (n + 16 * t) 1 : Nat)), (.int .i64 (toN p.er (n + 16 * t) 2 : Nat)), (.int .i64 (toN p.er (n + 16 * t) 3 : Nat)), (.int .i64 (toN p.er (n + 16 * t) 4 : Nat)), (.int .i64 (toN p.er (n + 16 * t) 5 : Nat))]
      have hb2 : Below w5.heap.size w5 (w5.alloc (.cells #[(.slice m.fa p.frs.length m.fc), (.slice m.na (layEnd p.er n).ns.length m.nc), (.slice m.ca (layEnd p.er n).cs.length m.cc), (.int .i64 0), (.int .i64 (secFrom p.er.frs (n + 16 * t) 1 : Nat)), (.int .i64 (secFrom p.er.frs (n + 16 * t) 2 : Nat)), (.int .i64 (secFrom p.er.frs (n + 16 * t) 3 : Nat)), (.int .i64 (secFrom p.er.frs (n + 16 * t) 4 : Nat)), (.int .i64 (secFrom p.er.frs (n + 16 * t) 5 : Nat)), (.int .i64 0), (.int .i64 (toN p.er (n + 16 * t) 1 : Nat)), (.int .i64 (toN p.er (n + 16 * t) 2 : Nat)), (.int .i64 (toN p.er (n + 16 * t) 3 : Nat)), (.int .i64 (toN p.er (n + 16 * t) 4 : Nat)), (.int .i64 (toN p.er (n + 16 * t) 5 : Nat))] 67)) := by (repeat' (first | exact Below.refl _ _ | assumption | refine Below.setCell ?_ (by first | omega | exact Below.size (by assumption) | (simp; done) | (simp; omega)) _ | refine Below.alloc ?_ (by first | omega | exact Below.size (by assumption) | (simp; done) | (simp; omega)) _ | refine Below.drew ?_ | refine below_drewN ?_ _))
      have kL := kL.all hb2
      have hl := hl.keep hb2 hb2.size
      have hm := hm.keep hb2 hb2.size
      have hb := hb.trans (hb2.mono hb.size)
      obtain ⟨gM, hgM⟩ : ∃ g, g = w5.heap.size := ⟨_, rfl⟩
      obtain ⟨W6, hW6⟩ : ∃ W', W' = w5.alloc (.cells #[(.slice m.fa p.frs.length m.fc), (.slice m.na (layEnd p.er n).ns.length m.nc), (.slice m.ca (layEnd p.er n).cs.length m.cc), (.int .i64 0), (.int .i64 (secFrom p.er.frs (n + 16 * t) 1 : Nat)), (.int .i64 (secFrom p.er.frs (n + 16 * t) 2 : Nat)), (.int .i64 (secFrom p.er.frs (n + 16 * t) 3 : Nat)), (.int .i64 (secFrom p.er.frs (n + 16 * t) 4 : Nat)), (.int .i64 (secFrom p.er.frs (n + 16 * t) 5 : Nat)), (.int .i64 0), (.int .i64 (toN p.er (n + 16 * t) 1 : Nat)), (.int .i64 (toN p.er (n + 16 * t) 2 : Nat)), (.int .i64 (toN p.er (n + 16 * t) 3 : Nat)), (.int .i64 (toN p.er (n + 16 * t) 4 : Nat)), (.int .i64 (toN p.er (n + 16 * t) 5 : Nat))] 67) := ⟨_, rfl⟩
      rw [← hgM] at kM ⊢
      rw [← hW6] at kL hl hm hb kM ⊢
      clear hW6 hgM hb2
      obtain ⟨hlf, hln, hlk⟩ := hl
      obtain ⟨hmf, hmn, hmk⟩ := hm
      rw [HR.out] at hlf hln hlk
      rw [HS.out] at hmf hmn hmk
      dsimp only at hlf hln hlk hmf hmn hmk
      rw [HE.out] at hmn hmk
      dsimp only at hmn hmk
      rw [show ((layEnd p.er n).cs.map (· + 16 * t)).length = (layEnd p.er n).cs.length by simp] at hmk
      rw [show (layFr p.er n).length = p.frs.length by unfold layFr; simp [PtM.er]] at hlf
      rw [show (layFr p.er (n + 16 * t)).length = p.frs.length by unfold layFr; simp [PtM.er]] at hmf
      have hsm := small_of HC.out
      have hd6 := hsm.df
      have hf6 := hsm.fr
      have hns6 : (layEnd p.er n).ns.length ≤ 60 ∧ (layEnd p.er n).cs.length ≤ 60 := by
        have h1 := lay_len HC.out n
        have h2 := setS_len (p.er.dfs.map Df.name)
        have e : (p.er.dfs.map Df.name).length = p.dfs.length := by simp [PtM.er]
        unfold definedP at h1
        omega
      obtain ⟨hns6, hcs6⟩ := hns6
      have x0 := kL.cell 0
      have x1 := kL.cell 1
      have x2 := kL.cell 2
      have y0 := kM.cell 0
      have y1 := kM.cell 1
      have y2 := kM.cell 2
      go_wp2_with fail
      refine (equalStrs_any m.na l.na m.nc l.nc (layEnd p.er n).ns (layEnd p.er n).ns W6 hmn hln (by omega)).mono ?_
      rintro e w7 ⟨rfl, hb7⟩
      rw [show ((layEnd p.er n).ns == (layEnd p.er n).ns) = true by simp]
      have kL := kL.all hb7
      have kM := kM.all hb7
      have hlf := (hlf.below hb7).more hb7.size
      have hlk := (hlk.below hb7).more hb7.size
      have hmf := (hmf.below hb7).more hb7.size
      have hmk := (hmk.below hb7).more hb7.size
      have hb := hb.trans (hb7.mono hb.size)
      clear x0 x1 x2 y0 y1 y2 hb7 hmn hln
      have x0 := kL.cell 0
      have x2 := kL.cell 2
      have y0 := kM.cell 0
      have y2 := kM.cell 2
      go_wp2_with fail
      clear x0 x2 y0 y2
      go_loopw [73] (fun i wr => ∃ k : Nat, k ≤ p.frs.length ∧ i = .int .i64 k ∧ Below w7.heap.size w7 wr) (fun i _ => p.frs.length - (intOf i).toNat)
      case atStart => exact ⟨0, Nat.zero_le _, rfl, Below.refl _ _⟩
      case round =>
        obtain ⟨k, hk, rfl, hbr⟩ := hrel
        have x0 := (kL.all hbr).cell 0
        have x2 := (kL.all hbr).cell 2
        have y0 := (kM.all hbr).cell 0
        have y2 := (kM.all hbr).cell 2
        by_cases hlt : k < p.frs.length
        · obtain ⟨b1, o1, u1, e1, z1, f1, c1⟩ := (hlf.below hbr).at_ hlt
          obtain ⟨b2, o2, u2, e2, z2, f2, c2⟩ := (hmf.below hbr).at_ hlt
          have hke : k < p.er.frs.length := by simpa [PtM.er] using hlt
          rw [natsV_at (show (layFr p.er n)[k]? = some (adrOf p.er.frs n k) by unfold layFr; rw [List.getElem?_map, List.getElem?_range hke]; rfl)] at f1
          rw [natsV_at (show (layFr p.er (n + 16 * t))[k]? = some (adrOf p.er.frs (n + 16 * t) k) by unfold layFr; rw [List.getElem?_map, List.getElem?_range hke]; rfl), adrOf_moved (lays_of HC.out) _ _ (Nat.dvd_mul_right _ _) hke, show ((adrOf p.er.frs n k + 16 * t : Nat) : Int) = (adrOf p.er.frs n k : Int) + 16 * (t : Int) by omega] at f2
          injection f1 with f1
          injection f2 with f2
          subst f1 f2
          have ha := adrOf_le (lays_of HC.out) (show n < 65536 by omega) (List.getElem?_eq_getElem hke)
          rw [e1] at x0 
          rw [e2] at y0
          clear hke x2 y2
          (go_wp2_with fail; go_quiet (fail); go_wp2_with fail; go_roundw; (case rel => exact ⟨k + 1, by omega, by go_num, by (repeat' (first | exact Below.refl _ _ | assumption | refine Below.setCell ?_ (by first | omega | exact Below.size (by assumption) | (simp; done) | (simp; omega)) _ | refine Below.alloc ?_ (by first | omega | exact Below.size (by assumption) | (simp; done) | (simp; omega)) _ | refine Below.drew ?_ | refine below_drewN ?_ _))⟩); (case measure => simp [intOf]; omega))
        · obtain rfl : k = p.frs.length := by omega
          go_wp2_with fail
          clear x0 x2 y0 y2
          go_loopw [93] (fun i wx => ∃ k : Nat, k ≤ (layEnd p.er n).cs.length ∧ i = .int .i64 k ∧ Below w7.heap.size w7 wx) (fun i _ => (layEnd p.er n).cs.length - (intOf i).toNat)
          case atStart => exact ⟨0, Nat.zero_le _, rfl, hbr⟩
          case round =>
            clear hbr
            obtain ⟨k, hk, rfl, hbr⟩ := hrel
            have x2 := (kL.all hbr).cell 2
            have y2 := (kM.all hbr).cell 2
            by_cases hlt : k < (layEnd p.er n).cs.length
            · obtain ⟨b1, o1, u1, e1, z1, f1, c1⟩ := (hlk.below hbr).at_ hlt
              obtain ⟨b2, o2, u2, e2, z2, f2, c2⟩ := (hmk.below hbr).at_ hlt
              obtain ⟨c, hcc⟩ : ∃ c, (layEnd p.er n).cs[k]? = some c := ⟨_, List.getElem?_eq_getElem hlt⟩
              rw [natsV_at hcc] at f1
              rw [natsV_at (show ((layEnd p.er n).cs.map (· + 16 * t))[k]? = some (c + 16 * t) by rw [List.getElem?_map, hcc]; rfl), show ((c + 16 * t : Nat) : Int) = (c : Int) + 16 * (t : Int) by omega] at f2
              injection f1 with f1
              injection f2 with f2
              subst f1 f2
              have ha := cs_le H0.out hcc
              rw [e1] at x2
              rw [e2] at y2
              clear hcc
              (go_wp2_with fail; go_quiet (fail); go_wp2_with fail; go_roundw; (case rel => exact ⟨k + 1, by omega, by go_num, by (repeat' (first | exact Below.refl _ _ | assumption | refine Below.setCell ?_ (by first | omega | exact Below.size (by assumption) | (simp; done) | (simp; omega)) _ | refine Below.alloc ?_ (by first | omega | exact Below.size (by assumption) | (simp; done) | (simp; omega)) _ | refine Below.drew ?_ | refine below_drewN ?_ _))⟩); (case measure => simp [intOf]; omega))
            · obtain rfl : k = (layEnd p.er n).cs.length := by omega
              go_wp2_with fail
              clear x2 y2
              go_loopw [13] (fun i wx => ∃ k : Nat, 1 ≤ k ∧ k ≤ 6 ∧ i = .int .i64 k ∧ Below w7.heap.size w7 wx) (fun i _ => 6 - (intOf i).toNat)
              case atStart => exact ⟨1, by omega, by omega, rfl, hbr⟩
              case round =>
                clear hbr
                obtain ⟨k, hk1, hk6, rfl, hbr⟩ := hrel
                by_cases hlt : k ≤ 5
                · have x3 := ((kL.all hbr).cell (3 + k)).trans (lyx_from hk1 hlt)
                  have x9 := ((kL.all hbr).cell (9 + k)).trans (lyx_to hk1 hlt)
                  have y3 := ((kM.all hbr).cell (3 + k)).trans (lyx_from (f := secFrom p.er.frs (n + 16 * t)) (t := toN p.er (n + 16 * t)) hk1 hlt)
                  have y9 := ((kM.all hbr).cell (9 + k)).trans (lyx_to (f := secFrom p.er.frs (n + 16 * t)) (t := toN p.er (n + 16 * t)) hk1 hlt)
                  rw [secFrom_moved (lays_of HC.out) _ _ (Nat.dvd_mul_right _ _), show ((secFrom p.er.frs n k + 16 * t : Nat) : Int) = (secFrom p.er.frs n k : Int) + 16 * (t : Int) by omega] at y3
                  rw [toN_moved HC.out _ _ (Nat.dvd_mul_right _ _), show ((toN p.er n k + 16 * t : Nat) : Int) = (toN p.er n k : Int) + 16 * (t : Int) by omega] at y9
                  have b3 := secFrom_le HC.out (show n < 65536 by omega) hk1 hlt
                  have b9 := toN_le HC.out H0.out hlt
                  have qk : decide ((k : Int) ≤ 5) = true := decide_eq_true (by omega)
                  replace b3 := Lib.hid b3
                  replace b9 := Lib.hid b9
                  replace hb0 := Lib.hid hb0
                  replace hb1 := Lib.hid hb1
                  go_upto_region 25 with (fail)
                  replace b3 := b3.out
                  replace b9 := b9.out
                  go_quiet (fail)
                  go_wp2_with fail
                  go_roundw
                  case rel => exact ⟨k + 1, by omega, by omega, by go_num, by (repeat' (first | exact Below.refl _ _ | assumption | refine Below.setCell ?_ (by first | omega | exact Below.size (by assumption) | (simp; done) | (simp; omega)) _ | refine Below.alloc ?_ (by first | omega | exact Below.size (by assumption) | (simp; done) | (simp; omega)) _ | refine Below.drew ?_ | refine below_drewN ?_ _))⟩
                  case measure => simp [intOf]; omega
                · obtain rfl : k = 6 := by omega
                  go_wp2_with fail
                  go_ret
                  exact ⟨rfl, hb.trans (hbr.mono hb.size)⟩
    · have hmc := lay_cells_bad hmr h0
      have hx : layE p.er ((n : Int) + 16 * (t : Int)) = 10 ∨ layE p.er ((n : Int) + 16 * (t : Int)) = 3 := by
        rcases HM.out with h | h
        · exact absurd h.1 h0
        · exact h
      obtain ⟨x, hx'⟩ : ∃ x, layE p.er ((n : Int) + 16 * (t : Int)) = x := ⟨_, rfl⟩
      rw [hx'] at hx ⊢
      clear hx' h0 hmr
      rw [hmc]
      rcases hx with rfl | rfl
      · go_wp2_with fail
        go_ret
        exact ⟨rfl, by (repeat' (first | exact Below.refl _ _ | assumption | refine Below.setCell ?_ (by first | omega | exact Below.size (by assumption) | (simp; done) | (simp; omega)) _ | refine Below.alloc ?_ (by first | omega | exact Below.size (by assumption) | (simp; done) | (simp; omega)) _ | refine Below.drew ?_ | refine below_drewN ?_ _))⟩
      · go_wp2_with fail
        go_ret
        exact ⟨rfl, by (repeat' (first | exact Below.refl _ _ | assumption | refine Below.setCell ?_ (by first | omega | exact Below.size (by assumption) | (simp; done) | (simp; omega)) _ | refine Below.alloc ?_ (by first | omega | exact Below.size (by assumption) | (simp; done) | (simp; omega)) _ | refine Below.drew ?_ | refine below_drewN ?_ _))⟩
  · have hlc := lay_cells_bad hr h0
    obtain ⟨x, hx⟩ : ∃ x, layE p.er base = x := ⟨_, rfl⟩
    have hx0 : (x != 0) = true := by rw [hx] at h0; simpa using h0
    rw [hx, hlc]
    clear hx h0 hr hlc hA kP HAT
    go_upto_region 2 with (fail)
    have hb2 : Below w1.heap.size w1 (w1.alloc (.cells #[.slice (l).fa 0 (l).fc, .slice (l).na 0 (l).nc, .slice (l).ca 0 (l).cc, .int .i64 0, .int .i64 0, .int .i64 0, .int .i64 0, .int .i64 0, .int .i64 0, .int .i64 0, .int .i64 0, .int .i64 0, .int .i64 0, .int .i64 0, .int .i64 0] 67)) := by (repeat' (first | exact Below.refl _ _ | assumption | refine Below.setCell ?_ (by first | omega | exact Below.size (by assumption) | (simp; done) | (simp; omega)) _ | refine Below.alloc ?_ (by first | omega | exact Below.size (by assumption) | (simp; done) | (simp; omega)) _ | refine Below.drew ?_ | refine below_drewN ?_ _))
    have hb := hb.trans (hb2.mono hb.size)
    obtain ⟨gL, hgL⟩ : ∃ g, g = w1.heap.size := ⟨_, rfl⟩
    obtain ⟨W2, hW2⟩ : ∃ W', W' = w1.alloc (.cells #[.slice (l).fa 0 (l).fc, .slice (l).na 0 (l).nc, .slice (l).ca 0 (l).cc, .int .i64 0, .int .i64 0, .int .i64 0, .int .i64 0, .int .i64 0, .int .i64 0, .int .i64 0, .int .i64 0, .int .i64 0, .int .i64 0, .int .i64 0, .int .i64 0] 67) := ⟨_, rfl⟩
    rw [← hgL]
    rw [← hW2] at hb ⊢
    clear hW2 hgL hb2 hl
    go_wp2_with fail
    refine (laid_any W2).mono ?_
    rintro e w3 ⟨rfl, hb3⟩
    have hb := hb.trans (hb3.mono hb.size)
    clear hb3
    go_wp2_with fail
    refine (laid_any w3).mono ?_
    rintro e w4 ⟨rfl, hb4⟩
    have hb := hb.trans (hb4.mono hb.size)
    clear hb4
    go_wp2_with fail
    go_ret
    exact ⟨rfl, hb⟩
end Go.Proofs.Ytpbbmddbmbmbpaa
