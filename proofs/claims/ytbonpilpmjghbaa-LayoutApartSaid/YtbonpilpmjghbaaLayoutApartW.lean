/- ropewalklaw.LayoutApart: the call returns true. -/
import Derived.Test.YtbonpilpmjghbaaLayoutMovedW
import Derived.Test.YtbonpilpmjghbaaLayK
import Derived.IntWalk
import Derived.StillTailTactics
set_option linter.all false
namespace Go.Proofs.Ytbonpilpmjghbaa
open Go.RowKit

set_option maxHeartbeats 40000000 in
set_option maxRecDepth 100000 in
theorem layoutApart_any (p : PtM) (base : Int) (w : World) (h : p.At w w.heap.size) (hcap : p.frs.length ≤ p.fc) :
    Calls Try.prog 6 #[.agg #[.slice p.fa p.frs.length p.fc, .slice p.da p.dfs.length p.dc], .int .i64 base] w fun e w' => e = .returned (.bool true) ∧ Below w.heap.size w w' := by
  have kP := Blk.new w 44 #[.slice p.fa p.frs.length p.fc, .slice p.da p.dfs.length p.dc]
  have hb : Below w.heap.size w (w.alloc (.cells #[.slice (p).fa (p).frs.length (p).fc, .slice (p).da (p).dfs.length (p).dc] 44)) := by (repeat' (first | exact Below.refl _ _ | assumption | refine Below.setCell ?_ (by first | omega | exact Below.size (by assumption) | (simp; done) | (simp; omega)) _ | refine Below.alloc ?_ (by first | omega | exact Below.size (by assumption) | (simp; done) | (simp; omega)) _ | refine Below.drew ?_ | refine below_drewN ?_ _))
  have h1 := h.all hb
  clear h
  go_enter Try.func6, Try.ntmps6
  go_wp2_with fail
  obtain ⟨gP, hgP⟩ : ∃ g, g = w.heap.size := ⟨_, rfl⟩
  obtain ⟨W, hW⟩ : ∃ W, W = w.alloc (.cells #[.slice (p).fa (p).frs.length (p).fc, .slice (p).da (p).dfs.length (p).dc] 44) := ⟨_, rfl⟩
  rw [show Blk (w.alloc (.cells #[.slice (p).fa (p).frs.length (p).fc, .slice (p).da (p).dfs.length (p).dc] 44)) w.heap.size = Blk W gP by rw [hW, hgP]] at kP
  rw [← hgP]
  rw [← hW] at hb h1 ⊢
  clear hW hgP
  refine (lay_any p base W h1).mono ?_
  rintro e w1 ⟨l, rfl, hr, hl, hb1⟩
  have kP := kP.all hb1
  have hA := h1.all hb1
  have hb := hb.trans (hb1.mono hb.size)
  clear h1 hb1
  by_cases h0 : layE p.er base = 0
  · obtain ⟨hc, hb0, hb1, _⟩ := layE_zero h0
    obtain ⟨n, rfl⟩ : ∃ n : Nat, base = n := ⟨base.toNat, by omega⟩
    have hlc := lay_cells hr h0
    rw [h0, hlc]
    have hr2 := hr.trans (layR_zero h0)
    have H0 := Lib.hid h0
    have HC := Lib.hid hc
    have HN := Lib.hid (show n < 65536 by omega)
    obtain ⟨hlf, hln, hlk⟩ := hl
    rw [hr2] at hlf hln hlk
    dsimp only at hlf hln hlk
    rw [show (layFr p.er n).length = p.frs.length by unfold layFr; simp [PtM.er]] at hlf
    have hl1 := lay_len hc n
    have hsm := small_of hc
    have hns6 : (layEnd p.er n).ns.length ≤ 60 := by
      have h2 := setS_len (p.er.dfs.map Df.name)
      have e : (p.er.dfs.map Df.name).length = p.dfs.length := by simp [PtM.er]
      have := hsm.df
      unfold definedP at hl1
      omega
    have HLL := Lib.hid hl1.1
    have hf6 := hsm.fr
    have HSM := Lib.hid hsm
    clear hr hr2 h0 hlc hc hb0 hb1 hl1 hsm
    go_upto_region 2 with (fail)
    have kL := Blk.new w1 67 #[(.slice l.fa p.frs.length l.fc), (.slice l.na (layEnd p.er n).ns.length l.nc), (.slice l.ca (layEnd p.er n).cs.length l.cc), (.int .i64 0), (.int .i64 (secFrom p.er.frs n 1 : Nat)), (.int .i64 (secFrom p.er.frs n 2 : Nat)), (.int .i64 (secFrom p.er.frs n 3 : Nat)), (.int .i64 (secFrom p.er.frs n 4 : Nat)), (.int .i64 (secFrom p.er.frs n 5 : Nat)), (.int .i64 0), (.int .i64 (toN p.er n 1 : Nat)), (.int .i64 (toN p.er n 2 : Nat)), (.int .i64 (toN p.er n 3 : Nat)), (.int .i64 (toN p.er n 4 : Nat)), (.int .i64 (toN p.er n 5 : Nat))]
    have hb2 : Below w1.heap.size w1 (w1.alloc (.cells #[(.slice l.fa p.frs.length l.fc), (.slice l.na (layEnd p.er n).ns.length l.nc), (.slice l.ca (layEnd p.er n).cs.length l.cc), (.int .i64 0), (.int .i64 (secFrom p.er.frs n 1 : Nat)), (.int .i64 (secFrom p.er.frs n 2 : Nat)), (.int .i64 (secFrom p.er.frs n 3 : Nat)), (.int .i64 (secFrom p.er.frs n 4 : Nat)), (.int .i64 (secFrom p.er.frs n 5 : Nat)), (.int .i64 0), (.int .i64 (toN p.er n 1 : Nat)), (.int .i64 (toN p.er n 2 : Nat)), (.int .i64 (toN p.er n 3 : Nat)), (.int .i64 (toN p.er n 4 : Nat)), (.int .i64 (toN p.er n 5 : Nat))] 67)) := by (repeat' (first | exact Below.refl _ _ | assumption | refine Below.setCell ?_ (by first | omega | exact Below.size (by assumption) | (simp; done) | (simp; omega)) _ | refine Below.alloc ?_ (by first | omega | exact Below.size (by assumption) | (simp; done) | (simp; omega)) _ | refine Below.drew ?_ | refine below_drewN ?_ _))
    have kP := kP.all hb2
    have hA := hA.all hb2
    have hlf := (hlf.below hb2).more hb2.size
    have hln := (hln.below hb2).more hb2.size
    have hlk := (hlk.below hb2).more hb2.size
    have hb := hb.trans (hb2.mono hb.size)
    obtain ⟨gL, hgL⟩ : ∃ g, g = w1.heap.size := ⟨_, rfl⟩
    obtain ⟨W2, hW2⟩ : ∃ W', W' = w1.alloc (.cells #[(.slice l.fa p.frs.length l.fc), (.slice l.na (layEnd p.er n).ns.length l.nc), (.slice l.ca (layEnd p.er n).cs.length l.cc), (.int .i64 0), (.int .i64 (secFrom p.er.frs n 1 : Nat)), (.int .i64 (secFrom p.er.frs n 2 : Nat)), (.int .i64 (secFrom p.er.frs n 3 : Nat)), (.int .i64 (secFrom p.er.frs n 4 : Nat)), (.int .i64 (secFrom p.er.frs n 5 : Nat)), (.int .i64 0), (.int .i64 (toN p.er n 1 : Nat)), (.int .i64 (toN p.er n 2 : Nat)), (.int .i64 (toN p.er n 3 : Nat)), (.int .i64 (toN p.er n 4 : Nat)), (.int .i64 (toN p.er n 5 : Nat))] 67) := ⟨_, rfl⟩
    rw [← hgL] at kL ⊢
    rw [← hW2] at kL kP hA hlf hln hlk hb ⊢
    clear hW2 hgL hb2
    go_wp2_with fail
    refine (laid_any W2).mono ?_
    rintro e w3 ⟨rfl, hb3⟩
    have kP := kP.all hb3
    have hA := hA.all hb3
    have hlf := (hlf.below hb3).more hb3.size
    have hln := (hln.below hb3).more hb3.size
    have hlk := (hlk.below hb3).more hb3.size
    have kL := kL.all hb3
    have hb := hb.trans (hb3.mono hb.size)
    clear hb3
    have x0 := kL.cell 0
    have x1 := kL.cell 1
    have x2 := kL.cell 2
    have y0 := kP.cell 0
    have hnk : (((layEnd p.er n).ns.length : Int) != ((layEnd p.er n).cs.length : Int)) = false := by rw [HLL.out]; simp
    go_wp2_with fail
    clear x0 x1 x2 y0
    go_loopw [7, 8] (fun x i wr => ∃ s : Nat, 1 ≤ s ∧ s ≤ 6 ∧ i = .int .i64 s ∧ x = .int .i64 (toN p.er n (s - 1) : Nat) ∧ Below w3.heap.size w3 wr) (fun _ i _ => 6 - (intOf i).toNat)
    case atStart => exact ⟨1, by omega, by omega, rfl, rfl, Below.refl _ _⟩
    case round =>
      obtain ⟨s, hs1, hs6, rfl, rfl, hbr⟩ := hrel
      by_cases hs5 : s ≤ 5
      · have qk : decide ((s : Int) ≤ 5) = true := decide_eq_true (by omega)
        have x3 := ((kL.all hbr).cell (3 + s)).trans (lyx_from hs1 hs5)
        have x9 := ((kL.all hbr).cell (9 + s)).trans (lyx_to hs1 hs5)
        obtain ⟨r1, r2, r3, r4, _⟩ := sec_row H0.out hs1 hs5
        have q1 : (((secFrom p.er.frs n s : Nat) : Int) % 16 != 0) = false := by simp; omega
        have q2 : decide (((secFrom p.er.frs n s : Nat) : Int) < ((toN p.er n (s - 1) : Nat) : Int)) = false := decide_eq_false (by omega)
        have q3 : decide (((toN p.er n s : Nat) : Int) < ((secFrom p.er.frs n s : Nat) : Int)) = false := decide_eq_false (by omega)
        have q4 : decide ((65536 : Int) < ((toN p.er n s : Nat) : Int)) = false := decide_eq_false (by omega)
        have q5 : decide (secFrom p.er.frs n s < toN p.er n (s - 1)) = false := decide_eq_false (by omega)
        have q6 : decide (toN p.er n s < secFrom p.er.frs n s) = false := decide_eq_false (by omega)
        have q7 : decide (65536 < toN p.er n s) = false := decide_eq_false (by omega)
        clear r1 r2 r3 r4
        go_upto_region 10 with (fail)
        go_quiet (fail)
        go_wp2_with fail
        go_roundw
        case rel => exact ⟨s + 1, by omega, by omega, by go_num, by rw [Nat.add_sub_cancel], by (repeat' (first | exact Below.refl _ _ | assumption | refine Below.setCell ?_ (by first | omega | exact Below.size (by assumption) | (simp; done) | (simp; omega)) _ | refine Below.alloc ?_ (by first | omega | exact Below.size (by assumption) | (simp; done) | (simp; omega)) _ | refine Below.drew ?_ | refine below_drewN ?_ _))⟩
        case measure => simp [intOf]; omega
      · obtain rfl : s = 6 := by omega
        rw [show (6 : Nat) - 1 = 5 from rfl, show ((6 : Nat) : Int) = 6 from rfl]
        clear hs1 hs6 hs5
        have y0 := (kP.all hbr).cell 0
        go_wp2_with fail
        clear y0
        go_loopw [98] (fun i wx => ∃ k : Nat, k ≤ p.frs.length ∧ i = .int .i64 k ∧ Below w3.heap.size w3 wx) (fun i _ => p.frs.length - (intOf i).toNat)
        case atStart => exact ⟨0, Nat.zero_le _, rfl, hbr⟩
        case round =>
          clear hbr
          obtain ⟨i, hi, rfl, hbr⟩ := hrel
          by_cases hlt : i < p.frs.length
          · as_aux_lemma =>
              obtain ⟨x, hx⟩ : ∃ x, p.frs[i]? = some x := ⟨_, List.getElem?_eq_getElem hlt⟩
              have hxe : p.er.frs[i]? = some x.f := by simp [PtM.er, hx]
              have hAr := hA.keep hbr hbr.size
              obtain ⟨b, off, hfa, bl, c0, c1, c2, c3, c4, c5⟩ := fg_get hAr.fr hx
              obtain ⟨b1, o1, u1, e1, z1, f1, d1⟩ := (hlf.below hbr).at_ hlt
              have E1 := Lib.hid e1
              clear e1
              rw [natsV_at (show (layFr p.er n)[i]? = some (adrOf p.er.frs n i) by unfold layFr; rw [List.getElem?_map, List.getElem?_range (List.getElem?_eq_some_iff.1 hxe).1]; rfl)] at f1
              injection f1 with f1
              subst f1
              rw [hfa]
              go_upto_region 16 with (fail)
              have kX := Blk.new wr 73 #[.int .i64 x.f.sect, .int .i64 x.f.align, .string x.f.group, .slice x.ba x.f.bs.length x.bc, .int .i64 x.f.size, .slice x.ra x.f.rs.length x.rc]
              have hz4 := hbr.size
              have hbx : Below wr.heap.size wr (wr.alloc (.cells #[.int .i64 x.f.sect, .int .i64 x.f.align, .string x.f.group, .slice x.ba x.f.bs.length x.bc, .int .i64 x.f.size, .slice x.ra x.f.rs.length x.rc] 73)) := by (repeat' (first | exact Below.refl _ _ | assumption | refine Below.setCell ?_ (by first | omega | exact Below.size (by assumption) | (simp; done) | (simp; omega)) _ | refine Below.alloc ?_ (by first | omega | exact Below.size (by assumption) | (simp; done) | (simp; omega)) _ | refine Below.drew ?_ | refine below_drewN ?_ _))
              have hbr := hbr.trans (hbx.mono hbr.size)
              obtain ⟨gX, hgX⟩ : ∃ g, g = wr.heap.size := ⟨_, rfl⟩
              obtain ⟨W4, hW4⟩ : ∃ W, W = wr.alloc (.cells #[.int .i64 x.f.sect, .int .i64 x.f.align, .string x.f.group, .slice x.ba x.f.bs.length x.bc, .int .i64 x.f.size, .slice x.ra x.f.rs.length x.rc] 73) := ⟨_, rfl⟩
              rw [← hgX] at kX ⊢
              rw [← hW4] at kX hbr ⊢
              have d1 : W4.cell? ⟨b1, o1 + i, none⟩ = some (.int .i64 (adrOf p.er.frs n i : Nat)) := by rw [hW4, World.cell?_alloc_lt _ _ _ (Nat.lt_of_lt_of_le z1 hz4)]; exact d1
              clear hgX hW4 hbx c0 c1 c2 c3 c4 c5
              have x0 := (kL.all hbr).cell 0
              rw [E1.out] at x0
              go_upto_region 17 with (fail)
              clear x0 d1
              have hmem := List.mem_of_getElem? hxe
              have hsx := (lays_of HC.out).sect x.f hmem
              obtain ⟨a0, a8, aeq, adv⟩ := (lays_of HC.out).al0 hmem
              obtain ⟨l64, leq⟩ := (lays_of HC.out).ln0 hmem
              obtain ⟨s, hs⟩ : ∃ s : Nat, x.f.sect = s := ⟨x.f.sect.toNat, by omega⟩
              obtain ⟨al, hal⟩ : ∃ a, a = x.f.al := ⟨_, rfl⟩
              obtain ⟨ln, hln'⟩ : ∃ a, a = x.f.ln := ⟨_, rfl⟩
              have HL : Hid (∀ W, Calls Try.prog 31 #[.agg #[.int .i64 (s : Nat), .int .i64 (al : Nat), .string x.f.group, .slice x.ba x.f.bs.length x.bc, .int .i64 x.f.size, .slice x.ra x.f.rs.length x.rc]] W fun e w' => e = .returned (.int .i64 (ln : Nat)) ∧ Below W.heap.size W w') := by
                intro W
                rw [← hs, hal, aeq, hln', leq]
                exact long_any x W
              rw [hs, ← aeq, ← hal] at kX
              have hin := adr_in (base := n) (lays_of HC.out) hxe
              rw [← hal, ← hln', show x.f.sect.toNat = s by omega] at hin
              obtain ⟨i1, i2, i3⟩ := hin
              have hs1 : 1 ≤ s := by omega
              have hs5 : s ≤ 5 := by omega
              have hrow := (sec_row H0.out hs1 hs5).2.2.2
              have had := adrOf_le (lays_of HC.out) HN.out hxe
              obtain ⟨a, hav⟩ : ∃ a, a = adrOf p.er.frs n i := ⟨_, rfl⟩
              rw [← hav] at i1 i2 i3 had ⊢
              have b0 : 0 < al := by omega
              have b1' : ln ≤ 64 := by omega
              have b2' : al ≤ 8 := by omega
              have q0 : (((a : Nat) : Int) % (al : Int) != 0) = false := by
                have : ((a : Nat) : Int) % (al : Int) = ((a % al : Nat) : Int) := by omega
                rw [this, i1]; rfl
              have q1 : decide (((a : Nat) : Int) < ((secFrom p.er.frs n s : Nat) : Int)) = false := decide_eq_false (by omega)
              have q2 : decide (a < secFrom p.er.frs n s) = false := decide_eq_false (by omega)
              have q3 : decide (((toN p.er n s : Nat) : Int) < (a : Int) + (ln : Int)) = false := decide_eq_false (by omega)
              have q4 : decide (toN p.er n s < a + ln) = false := decide_eq_false (by omega)
              have hwr : IntKind.i64.wrap ((a : Int) + (ln : Int)) = (a : Int) + (ln : Int) := IntWalk.i64_in _ (by omega)
              have q6 : decide (((toN p.er n s : Nat) : Int) < IntKind.i64.wrap ((a : Int) + (ln : Int))) = false := by rw [hwr]; exact q3
              clear hwr
              have hal0 : ¬ al = 0 := by omega
              have hs6c : ((s : Nat) : Int) < 6 := by omega
              have q5 : (((a : Nat) : Int).tmod (al : Int) != 0) = false := by
                rw [← Int.ofNat_tmod, i1]; rfl
              have HX := Lib.hid hxe
              have HXX := Lib.hid hx
              have HS := Lib.hid hs
              have HAL := Lib.hid (And.intro hal aeq)
              have HLN := Lib.hid (And.intro hln' leq)
              have HAV := Lib.hid hav
              have HR := Lib.hid hrow
              clear hmem hsx a0 a8 aeq adv l64 leq hs hal hln' i1 i2 i3 hrow hav hx hxe
              have t0 := kX.cell 0
              have t1 := kX.cell 1
              have t2 := kX.cell 2
              have t3 := kX.cell 3
              have t4 := kX.cell 4
              have t5 := kX.cell 5
              have t6 := ((kL.all hbr).cell (3 + s)).trans (lyx_from hs1 hs5)
              have t7 := ((kL.all hbr).cell (9 + s)).trans (lyx_to hs1 hs5)
              have zX := kX.lt
              have zL := (kL.all hbr).lt
              (refine wp_region_held_drew (S := (fun w' => w'.cell? ⟨gX, 0, none⟩ = some (.int .i64 (s : Nat)) ∧ w'.cell? ⟨gX, 1, none⟩ = some (.int .i64 (al : Nat)) ∧ w'.cell? ⟨gX, 2, none⟩ = some (.string x.f.group) ∧ w'.cell? ⟨gX, 3, none⟩ = some (.slice x.ba x.f.bs.length x.bc) ∧ w'.cell? ⟨gX, 4, none⟩ = some (.int .i64 x.f.size) ∧ w'.cell? ⟨gX, 5, none⟩ = some (.slice x.ra x.f.rs.length x.rc) ∧ w'.cell? ⟨gL, 3 + s, none⟩ = some (.int .i64 (secFrom p.er.frs n s : Nat)) ∧ w'.cell? ⟨gL, 9 + s, none⟩ = some (.int .i64 (toN p.er n s : Nat)))) (by kernel_rfl) ?_ (fun hHeld => ?_); (focus ((try dsimp only); go_keep)); (refine wpAnyH_take (i := 0) (oi := { dst := some 108, op := Op.move (Operand.tmp 11), type := 3, pos := "law1.go:399", after := #[], guard := none }) (v := ?_) rfl (by kernel_rfl) (by kernel_rfl) (by kernel_rfl) (fun _ _ _ h => h) (Or.inl ⟨by rfl, ?_⟩) (by assumption) ?_; rotate_left; (focus (intro w hSw; (try dsimp only at hSw); go_simp; (try with_reducible rfl))); (try simp only [Act.put, List.setIfInBounds_toArray, List.set_cons_zero, List.set_cons_succ])); (refine wpAnyH_take (i := 1) (oi := { dst := some 109, op := Op.fieldAddr 73 (Operand.tmp 10) 1, type := 0, pos := "law1.go:399", after := #[], guard := none }) (v := ?_) rfl (by kernel_rfl) (by kernel_rfl) (by kernel_rfl) (fun _ _ _ h => h) (Or.inl ⟨by rfl, ?_⟩) (by assumption) ?_; rotate_left; (focus (intro w hSw; (try dsimp only at hSw); go_simp; (try with_reducible rfl))); (try simp only [Act.put, List.setIfInBounds_toArray, List.set_cons_zero, List.set_cons_succ])); (refine wpAnyH_take (i := 2) (oi := { dst := some 110, op := Op.load 3 (Operand.tmp 109), type := 3, pos := "law1.go:399", after := #[{ on := 1, ground := Ground.data }], guard := none }) (v := ?_) rfl (by kernel_rfl) (by kernel_rfl) (by kernel_rfl) (fun _ _ _ h => h) (Or.inl ⟨by rfl, ?_⟩) (by assumption) ?_; rotate_left; (focus (intro w hSw; (try dsimp only at hSw); go_simp; (try with_reducible rfl))); (try simp only [Act.put, List.setIfInBounds_toArray, List.set_cons_zero, List.set_cons_succ])); (refine wpAnyH_take (i := 3) (oi := { dst := some 111, op := Op.binOp BinOp.rem 3 (Operand.tmp 108) (Operand.tmp 110) 3, type := 3, pos := "law1.go:399", after := #[{ on := 0, ground := Ground.data }, { on := 2, ground := Ground.data }], guard := none }) (v := ?_) rfl (by kernel_rfl) (by kernel_rfl) (by kernel_rfl) (fun _ _ _ h => h) (Or.inl ⟨by rfl, ?_⟩) (by assumption) ?_; rotate_left; (focus (intro w hSw; (try dsimp only at hSw); go_simp; (try rw [if_neg hal0]); (try rw [if_pos hs6c]); (try with_reducible rfl))); (try simp only [Act.put, List.setIfInBounds_toArray, List.set_cons_zero, List.set_cons_succ])); (refine wpAnyH_take (i := 4) (oi := { dst := some 112, op := Op.binOp BinOp.neq 3 (Operand.tmp 111) (Operand.const (Value.int IntKind.i64 0)) 3, type := 4, pos := "law1.go:399", after := #[{ on := 3, ground := Ground.data }], guard := none }) (v := ?_) rfl (by kernel_rfl) (by kernel_rfl) (by kernel_rfl) (fun _ _ _ h => h) (Or.inl ⟨by rfl, ?_⟩) (by assumption) ?_; rotate_left; (focus (intro w hSw; (try dsimp only at hSw); go_simp; (try with_reducible rfl))); (try simp only [Act.put, List.setIfInBounds_toArray, List.set_cons_zero, List.set_cons_succ])); (refine wpAnyH_take (i := 5) (oi := { dst := some 113, op := Op.move (Operand.tmp 112), type := 4, pos := "law1.go:399", after := #[{ on := 4, ground := Ground.data }], guard := none }) (v := ?_) rfl (by kernel_rfl) (by kernel_rfl) (by kernel_rfl) (fun _ _ _ h => h) (Or.inl ⟨by rfl, ?_⟩) (by assumption) ?_; rotate_left; (focus (intro w hSw; (try dsimp only at hSw); go_simp; (try with_reducible rfl))); (try simp only [Act.put, List.setIfInBounds_toArray, List.set_cons_zero, List.set_cons_succ])); (refine wpAnyH_take (i := 6) (oi := { dst := some 114, op := Op.move (Operand.tmp 11), type := 3, pos := "law1.go:399", after := #[{ on := 5, ground := Ground.guard }], guard := some (5, false) }) (v := ?_) rfl (by kernel_rfl) (by kernel_rfl) (by kernel_rfl) (fun _ _ _ h => h) (Or.inl ⟨by rfl, ?_⟩) (by assumption) ?_; rotate_left; (focus (intro w hSw; (try dsimp only at hSw); go_simp; (try with_reducible rfl))); (try simp only [Act.put, List.setIfInBounds_toArray, List.set_cons_zero, List.set_cons_succ])); (refine wpAnyH_take (i := 7) (oi := { dst := some 115, op := Op.fieldAddr 73 (Operand.tmp 10) 0, type := 0, pos := "law1.go:399", after := #[{ on := 5, ground := Ground.guard }], guard := some (5, false) }) (v := ?_) rfl (by kernel_rfl) (by kernel_rfl) (by kernel_rfl) (fun _ _ _ h => h) (Or.inl ⟨by rfl, ?_⟩) (by assumption) ?_; rotate_left; (focus (intro w hSw; (try dsimp only at hSw); go_simp; (try with_reducible rfl))); (try simp only [Act.put, List.setIfInBounds_toArray, List.set_cons_zero, List.set_cons_succ])); (refine wpAnyH_take (i := 8) (oi := { dst := some 116, op := Op.load 3 (Operand.tmp 115), type := 3, pos := "law1.go:399", after := #[{ on := 7, ground := Ground.data }, { on := 5, ground := Ground.guard }], guard := some (5, false) }) (v := ?_) rfl (by kernel_rfl) (by kernel_rfl) (by kernel_rfl) (fun _ _ _ h => h) (Or.inl ⟨by rfl, ?_⟩) (by assumption) ?_; rotate_left; (focus (intro w hSw; (try dsimp only at hSw); go_simp; (try with_reducible rfl))); (try simp only [Act.put, List.setIfInBounds_toArray, List.set_cons_zero, List.set_cons_succ])); (refine wpAnyH_take (i := 9) (oi := { dst := some 117, op := Op.fieldAddr 67 (Operand.tmp 5) 3, type := 0, pos := "law1.go:399", after := #[{ on := 5, ground := Ground.guard }], guard := some (5, false) }) (v := ?_) rfl (by kernel_rfl) (by kernel_rfl) (by kernel_rfl) (fun _ _ _ h => h) (Or.inl ⟨by rfl, ?_⟩) (by assumption) ?_; rotate_left; (focus (intro w hSw; (try dsimp only at hSw); go_simp; (try with_reducible rfl))); (try simp only [Act.put, List.setIfInBounds_toArray, List.set_cons_zero, List.set_cons_succ])); (refine wpAnyH_take (i := 10) (oi := { dst := some 118, op := Op.indexAddr 65 (Operand.tmp 117) (Operand.tmp 116), type := 0, pos := "law1.go:399", after := #[{ on := 9, ground := Ground.data }, { on := 8, ground := Ground.data }, { on := 5, ground := Ground.guard }], guard := some (5, false) }) (v := ?_) rfl (by kernel_rfl) (by kernel_rfl) (by kernel_rfl) (fun _ _ _ h => h) (Or.inl ⟨by rfl, ?_⟩) (by assumption) ?_; rotate_left; (focus (intro w hSw; (try dsimp only at hSw); go_simp; (try rw [if_neg hal0]); (try rw [if_pos hs6c]); (try with_reducible rfl))); (try simp only [Act.put, List.setIfInBounds_toArray, List.set_cons_zero, List.set_cons_succ])); (refine wpAnyH_take (i := 11) (oi := { dst := some 119, op := Op.load 3 (Operand.tmp 118), type := 3, pos := "law1.go:399", after := #[{ on := 10, ground := Ground.data }, { on := 5, ground := Ground.guard }], guard := some (5, false) }) (v := ?_) rfl (by kernel_rfl) (by kernel_rfl) (by kernel_rfl) (fun _ _ _ h => h) (Or.inl ⟨by rfl, ?_⟩) (by assumption) ?_; rotate_left; (focus (intro w hSw; (try dsimp only at hSw); go_simp; (try with_reducible rfl))); (try simp only [Act.put, List.setIfInBounds_toArray, List.set_cons_zero, List.set_cons_succ])); (refine wpAnyH_take (i := 12) (oi := { dst := some 120, op := Op.binOp BinOp.lss 3 (Operand.tmp 114) (Operand.tmp 119) 3, type := 4, pos := "law1.go:399", after := #[{ on := 6, ground := Ground.data }, { on := 11, ground := Ground.data }, { on := 5, ground := Ground.guard }], guard := some (5, false) }) (v := ?_) rfl (by kernel_rfl) (by kernel_rfl) (by kernel_rfl) (fun _ _ _ h => h) (Or.inl ⟨by rfl, ?_⟩) (by assumption) ?_; rotate_left; (focus (intro w hSw; (try dsimp only at hSw); go_simp; (try with_reducible rfl))); (try simp only [Act.put, List.setIfInBounds_toArray, List.set_cons_zero, List.set_cons_succ])); (refine wpAnyH_take (i := 13) (oi := { dst := some 121, op := Op.pick (Operand.tmp 113) (Operand.const (Value.bool true)) (Operand.tmp 120), type := 4, pos := "law1.go:399", after := #[{ on := 5, ground := Ground.data }, { on := 12, ground := Ground.data }], guard := none }) (v := ?_) rfl (by kernel_rfl) (by kernel_rfl) (by kernel_rfl) (fun _ _ _ h => h) (Or.inl ⟨by rfl, ?_⟩) (by assumption) ?_; rotate_left; (focus (intro w hSw; (try dsimp only at hSw); go_simp; (try with_reducible rfl))); (try simp only [Act.put, List.setIfInBounds_toArray, List.set_cons_zero, List.set_cons_succ])); (refine wpAnyH_take (i := 14) (oi := { dst := some 122, op := Op.move (Operand.tmp 121), type := 4, pos := "law1.go:399", after := #[{ on := 13, ground := Ground.data }, { on := 5, ground := Ground.chain }], guard := none }) (v := ?_) rfl (by kernel_rfl) (by kernel_rfl) (by kernel_rfl) (fun _ _ _ h => h) (Or.inl ⟨by rfl, ?_⟩) (by assumption) ?_; rotate_left; (focus (intro w hSw; (try dsimp only at hSw); go_simp; (try with_reducible rfl))); (try simp only [Act.put, List.setIfInBounds_toArray, List.set_cons_zero, List.set_cons_succ])); (refine wpAnyH_take (i := 15) (oi := { dst := some 123, op := Op.move (Operand.tmp 11), type := 3, pos := "law1.go:399", after := #[{ on := 14, ground := Ground.guard }], guard := some (14, false) }) (v := ?_) rfl (by kernel_rfl) (by kernel_rfl) (by kernel_rfl) (fun _ _ _ h => h) (Or.inl ⟨by rfl, ?_⟩) (by assumption) ?_; rotate_left; (focus (intro w hSw; (try dsimp only at hSw); go_simp; (try with_reducible rfl))); (try simp only [Act.put, List.setIfInBounds_toArray, List.set_cons_zero, List.set_cons_succ])); (refine wpAnyH_take (i := 16) (oi := { dst := some 124, op := Op.load 73 (Operand.tmp 10), type := 73, pos := "law1.go:399", after := #[{ on := 14, ground := Ground.guard }], guard := some (14, false) }) (v := ?_) rfl (by kernel_rfl) (by kernel_rfl) (by kernel_rfl) (fun _ _ _ h => h) (Or.inl ⟨by rfl, ?_⟩) (by assumption) ?_; rotate_left; (focus (intro w hSw; (try dsimp only at hSw); go_simp; (try with_reducible rfl))); (try simp only [Act.put, List.setIfInBounds_toArray, List.set_cons_zero, List.set_cons_succ])); (refine wpAnyH_take (i := 19) (oi := { dst := some 127, op := Op.fieldAddr 73 (Operand.tmp 10) 0, type := 0, pos := "law1.go:399", after := #[{ on := 14, ground := Ground.guard }], guard := some (14, false) }) (v := ?_) rfl (by kernel_rfl) (by kernel_rfl) (by kernel_rfl) (fun _ _ _ h => h) (Or.inl ⟨by rfl, ?_⟩) (by assumption) ?_; rotate_left; (focus (intro w hSw; (try dsimp only at hSw); go_simp; (try with_reducible rfl))); (try simp only [Act.put, List.setIfInBounds_toArray, List.set_cons_zero, List.set_cons_succ])); (refine wpAnyH_take (i := 20) (oi := { dst := some 128, op := Op.load 3 (Operand.tmp 127), type := 3, pos := "law1.go:399", after := #[{ on := 19, ground := Ground.data }, { on := 14, ground := Ground.guard }], guard := some (14, false) }) (v := ?_) rfl (by kernel_rfl) (by kernel_rfl) (by kernel_rfl) (fun _ _ _ h => h) (Or.inl ⟨by rfl, ?_⟩) (by assumption) ?_; rotate_left; (focus (intro w hSw; (try dsimp only at hSw); go_simp; (try with_reducible rfl))); (try simp only [Act.put, List.setIfInBounds_toArray, List.set_cons_zero, List.set_cons_succ])); (refine wpAnyH_take (i := 21) (oi := { dst := some 129, op := Op.fieldAddr 67 (Operand.tmp 5) 4, type := 0, pos := "law1.go:399", after := #[{ on := 14, ground := Ground.guard }], guard := some (14, false) }) (v := ?_) rfl (by kernel_rfl) (by kernel_rfl) (by kernel_rfl) (fun _ _ _ h => h) (Or.inl ⟨by rfl, ?_⟩) (by assumption) ?_; rotate_left; (focus (intro w hSw; (try dsimp only at hSw); go_simp; (try with_reducible rfl))); (try simp only [Act.put, List.setIfInBounds_toArray, List.set_cons_zero, List.set_cons_succ])); (refine wpAnyH_take (i := 22) (oi := { dst := some 130, op := Op.indexAddr 65 (Operand.tmp 129) (Operand.tmp 128), type := 0, pos := "law1.go:399", after := #[{ on := 21, ground := Ground.data }, { on := 20, ground := Ground.data }, { on := 14, ground := Ground.guard }], guard := some (14, false) }) (v := ?_) rfl (by kernel_rfl) (by kernel_rfl) (by kernel_rfl) (fun _ _ _ h => h) (Or.inl ⟨by rfl, ?_⟩) (by assumption) ?_; rotate_left; (focus (intro w hSw; (try dsimp only at hSw); go_simp; (try rw [if_neg hal0]); (try rw [if_pos hs6c]); (try with_reducible rfl))); (try simp only [Act.put, List.setIfInBounds_toArray, List.set_cons_zero, List.set_cons_succ])); (refine wpAnyH_take (i := 23) (oi := { dst := some 131, op := Op.load 3 (Operand.tmp 130), type := 3, pos := "law1.go:399", after := #[{ on := 22, ground := Ground.data }, { on := 14, ground := Ground.guard }], guard := some (14, false) }) (v := ?_) rfl (by kernel_rfl) (by kernel_rfl) (by kernel_rfl) (fun _ _ _ h => h) (Or.inl ⟨by rfl, ?_⟩) (by assumption) ?_; rotate_left; (focus (intro w hSw; (try dsimp only at hSw); go_simp; (try with_reducible rfl))); (try simp only [Act.put, List.setIfInBounds_toArray, List.set_cons_zero, List.set_cons_succ])); (refine wpAnyH_ready (rs := [17]) (by kernel_rfl) (by simp) ?_; refine AllReadyH.cons (o := { dst := some 125, op := Op.call { callee := Callee.value (Operand.func 31), args := #[Operand.tmp 124], argTypes := #[73] }, type := 3, pos := "law1.go:399", after := #[{ on := 16, ground := Ground.data }, { on := 14, ground := Ground.chain }, { on := 14, ground := Ground.guard }], guard := some (14, false) }) rfl (fun K hK => ?_) AllReadyH.nil; (try go_simp); (go_at_call 31; refine (HL.out _).mono ?_; rintro e w' ⟨rfl, hb1⟩; obtain ⟨hcc, hff⟩ := bcell hb1; have v0 := (hcc gX 0 zX).trans t0; have v1 := (hcc gX 1 zX).trans t1; have v2 := (hcc gX 2 zX).trans t2; have v3 := (hcc gX 3 zX).trans t3; have v4 := (hcc gX 4 zX).trans t4; have v5 := (hcc gX 5 zX).trans t5; have v6 := (hcc gL _ zL).trans t6; have v7 := (hcc gL _ zL).trans t7; clear hcc hff); go_wp2_with fail; refine hK.out _ _ ?_ (fun hHeld => ?_); (focus ((try dsimp only); go_keep)); clear hK K; (try simp only [Act.put, List.setIfInBounds_toArray, List.set_cons_zero, List.set_cons_succ])); (refine wpAnyH_take (i := 18) (oi := { dst := some 126, op := Op.binOp BinOp.add 3 (Operand.tmp 123) (Operand.tmp 125) 3, type := 3, pos := "law1.go:399", after := #[{ on := 15, ground := Ground.data }, { on := 17, ground := Ground.data }, { on := 14, ground := Ground.guard }], guard := some (14, false) }) (v := ?_) rfl (by kernel_rfl) (by kernel_rfl) (by kernel_rfl) (fun _ _ _ h => h) (Or.inl ⟨by rfl, ?_⟩) (by assumption) ?_; rotate_left; (focus (intro w hSw; (try dsimp only at hSw); go_simp; (try with_reducible rfl))); (try simp only [Act.put, List.setIfInBounds_toArray, List.set_cons_zero, List.set_cons_succ])); (refine wpAnyH_take (i := 24) (oi := { dst := some 132, op := Op.binOp BinOp.gtr 3 (Operand.tmp 126) (Operand.tmp 131) 3, type := 4, pos := "law1.go:399", after := #[{ on := 18, ground := Ground.data }, { on := 23, ground := Ground.data }, { on := 14, ground := Ground.guard }], guard := some (14, false) }) (v := ?_) rfl (by kernel_rfl) (by kernel_rfl) (by kernel_rfl) (fun _ _ _ h => h) (Or.inl ⟨by rfl, ?_⟩) (by assumption) ?_; rotate_left; (focus (intro w hSw; (try dsimp only at hSw); go_simp; (try with_reducible rfl))); (try simp only [Act.put, List.setIfInBounds_toArray, List.set_cons_zero, List.set_cons_succ])); (refine wpAnyH_take (i := 25) (oi := { dst := some 133, op := Op.pick (Operand.tmp 122) (Operand.const (Value.bool true)) (Operand.tmp 132), type := 4, pos := "law1.go:399", after := #[{ on := 14, ground := Ground.data }, { on := 24, ground := Ground.data }], guard := none }) (v := ?_) rfl (by kernel_rfl) (by kernel_rfl) (by kernel_rfl) (fun _ _ _ h => h) (Or.inl ⟨by rfl, ?_⟩) (by assumption) ?_; rotate_left; (focus (intro w hSw; (try dsimp only at hSw); go_simp; (try with_reducible rfl))); (try simp only [Act.put, List.setIfInBounds_toArray, List.set_cons_zero, List.set_cons_succ])))
              refine wpAnyH_done (by kernel_rfl) ?_ _
              have kX := kX.drew.all hb1
              have hbr := hbr.drew.trans (hb1.mono hbr.size)
              clear hb1 v0 v1 v2 v3 v4 v5 v6 v7 t0 t1 t2 t3 t4 t5 t6 t7 hHeld
              have HLX := HL
              clear HL q0 q1 q2 q3 q4 q5 q6
              have y0 := (kP.all hbr).cell 0
              rw [hfa] at y0
              go_wp2_with fail
              clear y0
              obtain ⟨W5, hW5⟩ : ∃ W, W = w' := ⟨_, rfl⟩
              rw [← hW5] at kX hbr ⊢
              clear hW5
              have HB5 := Lib.hid hbr
              go_loopw [139] (fun j wx => ∃ k : Nat, k ≤ i ∧ j = .int .i64 k ∧ Below W5.heap.size W5 wx) (fun j _ => i - (intOf j).toNat)
              case atStart => exact ⟨0, Nat.zero_le _, rfl, Below.refl _ _⟩
              case round =>
                obtain ⟨k, hk, rfl, hW⟩ := hrel
                by_cases hki : k < i
                · as_aux_lemma =>
                    have hkl : k < p.frs.length := by omega
                    obtain ⟨y, hy⟩ : ∃ y, p.frs[k]? = some y := ⟨_, List.getElem?_eq_getElem hkl⟩
                    have hye : p.er.frs[k]? = some y.f := by simp [PtM.er, hy]
                    have hbs := hbr.trans (hW.mono hbr.size)
                    have hAs := hA.keep hbs hbs.size
                    have kXs := kX.all hW
                    obtain ⟨b', off', hfa', bl', c0, c1, c2, c3, c4, c5⟩ := fg_get hAs.fr hy
                    obtain ⟨rfl, rfl⟩ : b' = b ∧ off' = off := by
                      rw [hfa] at hfa'
                      injection hfa' with hfa'
                      injection hfa' with e1 e2
                      exact ⟨e1.symm, e2.symm⟩
                    have hGx := (hAs.each x (List.mem_of_getElem? HXX.out)).by_
                    have hGy := (hAs.each y (List.mem_of_getElem? hy)).by_
                    obtain ⟨b1, o1, u1, e1', z1, f1, d1⟩ := (hlf.below hbs).at_ hkl
                    have E1' := Lib.hid e1'
                    clear e1'
                    rw [natsV_at (show (layFr p.er n)[k]? = some (adrOf p.er.frs n k) by unfold layFr; rw [List.getElem?_map, List.getElem?_range (List.getElem?_eq_some_iff.1 hye).1]; rfl)] at f1
                    injection f1 with f1
                    subst f1
                    go_upto_region 22 with (fail)
                    have kY := Blk.new wr 73 #[.int .i64 y.f.sect, .int .i64 y.f.align, .string y.f.group, .slice y.ba y.f.bs.length y.bc, .int .i64 y.f.size, .slice y.ra y.f.rs.length y.rc]
                    have zW := hW.size
                    have hzr : W5.heap.size ≤ wr.heap.size := hW.size
                    have z1' := Nat.lt_of_lt_of_le z1 hbs.size
                    have hc : Below wr.heap.size wr (wr.alloc (.cells #[.int .i64 y.f.sect, .int .i64 y.f.align, .string y.f.group, .slice y.ba y.f.bs.length y.bc, .int .i64 y.f.size, .slice y.ra y.f.rs.length y.rc] 73)) := by (repeat' (first | exact Below.refl _ _ | assumption | refine Below.setCell ?_ (by first | omega | exact Below.size (by assumption) | (simp; done) | (simp; omega)) _ | refine Below.alloc ?_ (by first | omega | exact Below.size (by assumption) | (simp; done) | (simp; omega)) _ | refine Below.drew ?_ | refine below_drewN ?_ _))
                    replace hW := hW.trans (hc.mono hW.size)
                    replace kXs := kXs.all hc
                    replace hGx := (hGx.below hc).more hc.size
                    replace hGy := (hGy.below hc).more hc.size
                    have hbs2 := hbr.trans (hW.mono hbr.size)
                    obtain ⟨W6, hW6⟩ : ∃ W, W = wr.alloc (.cells #[.int .i64 y.f.sect, .int .i64 y.f.align, .string y.f.group, .slice y.ba y.f.bs.length y.bc, .int .i64 y.f.size, .slice y.ra y.f.rs.length y.rc] 73) := ⟨_, rfl⟩
                    obtain ⟨gY, hgY⟩ : ∃ g, g = wr.heap.size := ⟨_, rfl⟩
                    have d1 : W6.cell? ⟨b1, o1 + k, none⟩ = some (.int .i64 (adrOf p.er.frs n k : Nat)) := by rw [hW6, World.cell?_alloc_lt _ _ _ z1']; exact d1
                    rw [← hgY] at kY ⊢
                    rw [← hW6] at kY kXs hW hGx hGy hbs2 ⊢
                    clear hW6 hgY hc c0 c1 c2 c3 c4 c5 zW hzr z1' hfa'
                    have t0 := kXs.cell 0
                    have v0 := kY.cell 0
                    by_cases hse : y.f.sect = s
                    · have HSE := Lib.hid hse
                      have qs : (y.f.sect != ((s : Nat) : Int)) = false := by rw [hse]; simp
                      have x0 := (kL.all hbs2).cell 0
                      rw [E1'.out] at x0
                      go_upto_region 24 with (fail)
                      obtain ⟨c, hcv⟩ : ∃ c, c = adrOf p.er.frs n k := ⟨_, rfl⟩
                      obtain ⟨lg, hlg⟩ : ∃ c, c = y.f.ln := ⟨_, rfl⟩
                      have hmy := List.mem_of_getElem? hye
                      obtain ⟨l64, leq⟩ := (lays_of HC.out).ln0 hmy
                      have HLY : Hid (∀ W, Calls Try.prog 31 #[.agg #[.int .i64 y.f.sect, .int .i64 y.f.align, .string y.f.group, .slice y.ba y.f.bs.length y.bc, .int .i64 y.f.size, .slice y.ra y.f.rs.length y.rc]] W fun e w' => e = .returned (.int .i64 (lg : Nat)) ∧ Below W.heap.size W w') := by
                        intro W
                        rw [hlg, leq]
                        exact long_any y W
                      have hc3 := adrOf_le (lays_of HC.out) HN.out hye
                      have hss : y.f.sect = x.f.sect := by rw [hse, HS.out]
                      have HNT : Hid (s ≠ 3 → c + lg ≤ a) := by
                        intro h3
                        rw [hcv, hlg, HAV.out]
                        exact adr_behind (lays_of HC.out) HX.out hye hss (by rw [HS.out]; omega) hki
                      have HTE : Hid (s = 3 → (al : Int) = y.f.align → x.f.bs = y.f.bs → a = c) := by
                        intro h3 h4 h5
                        rw [hcv, HAV.out]
                        exact (adr_texts HX.out hye hss (by rw [HS.out]; omega) (by rw [← h4, HAL.out.1, HAL.out.2]) h5.symm).symm
                      have HTX : Hid (c + lg ≤ a ∨ a + ln ≤ c ∨ a = c) := by
                        show _ ∨ _ ∨ _
                        rw [hcv, hlg, HAV.out, HLN.out.1]
                        exact adr_text (lays_of HC.out) HX.out hye hss
                      rw [← hcv] at hc3 ⊢
                      have hlg64 : lg ≤ 64 := by omega
                      clear hcv hlg hmy l64 leq hss hse x0 d1 t0 v0 qs hye hy
                      (have t0 := kXs.cell 0; have t1 := kXs.cell 1; have t2 := kXs.cell 2; have t3 := kXs.cell 3; have t4 := kXs.cell 4; have t5 := kXs.cell 5; have v0 := kY.cell 0; have v1 := kY.cell 1; have v2 := kY.cell 2; have v3 := kY.cell 3; have v4 := kY.cell 4; have v5 := kY.cell 5)
                      by_cases h3 : s = 3
                      · have q7 : ((s : Int) == 3) = true := by simp; omega
                        have q8 : ((s : Int) != 3) = false := by simp; omega
                        have HTE' := Lib.hid (HTE.out h3)
                        have H3 := Lib.hid h3
                        clear h3 HTE
                        by_cases hal : (al : Int) = y.f.align
                        · have qa : ((al : Int) == y.f.align) = true := by simpa using hal
                          by_cases hbs' : x.f.bs = y.f.bs
                          · have hac := HTE'.out hal hbs'
                            have HBE : Hid ((x.f.bs == y.f.bs) = true) := by show _ = _; rw [hbs']; simp
                            have ql : ((x.f.bs.length : Int) == (y.f.bs.length : Int)) = true := by rw [hbs']; simp
                            have HLE := Lib.hid hbs'
                            subst hac
                            clear hal hbs'
                            as_aux_lemma =>
                              (go_wp2_with (first | (go_at_call 32; refine (bytesEqual_any x.ba y.ba x.bc y.bc x.f.bs y.f.bs _ hGx hGy).mono ?_; rintro e w' ⟨rfl, rfl⟩; rw [HBE.out]) | (go_at_call 31; first | ((with_reducible refine (HLY.out _).mono ?_); rintro e w' ⟨rfl, hc⟩; (replace hW := hW.trans (hc.mono hW.size); replace kXs := kXs.all hc; replace kY := kY.all hc; replace hGx := (hGx.below hc).more hc.size; replace hGy := (hGy.below hc).more hc.size; clear hc; (have t0 := kXs.cell 0; have t1 := kXs.cell 1; have t2 := kXs.cell 2; have t3 := kXs.cell 3; have t4 := kXs.cell 4; have t5 := kXs.cell 5; have v0 := kY.cell 0; have v1 := kY.cell 1; have v2 := kY.cell 2; have v3 := kY.cell 3; have v4 := kY.cell 4; have v5 := kY.cell 5))) | ((with_reducible refine (HLX.out _).mono ?_); rintro e w' ⟨rfl, hc⟩; (replace hW := hW.trans (hc.mono hW.size); replace kXs := kXs.all hc; replace kY := kY.all hc; replace hGx := (hGx.below hc).more hc.size; replace hGy := (hGy.below hc).more hc.size; clear hc; (have t0 := kXs.cell 0; have t1 := kXs.cell 1; have t2 := kXs.cell 2; have t3 := kXs.cell 3; have t4 := kXs.cell 4; have t5 := kXs.cell 5; have v0 := kY.cell 0; have v1 := kY.cell 1; have v2 := kY.cell 2; have v3 := kY.cell 3; have v4 := kY.cell 4; have v5 := kY.cell 5))))))
                              (all_goals (first | (exfalso; omega) | (go_roundw; (case rel => exact ⟨k + 1, by omega, by go_num, hW⟩); (case measure => simp [intOf]; omega))))
                          · have HBE : Hid ((x.f.bs == y.f.bs) = false) := by show _ = _; simpa using hbs'
                            clear hal hbs'
                            by_cases hac : a = c
                            · subst hac
                              as_aux_lemma =>
                                (go_wp2_with (first | (go_at_call 32; refine (bytesEqual_any x.ba y.ba x.bc y.bc x.f.bs y.f.bs _ hGx hGy).mono ?_; rintro e w' ⟨rfl, rfl⟩; rw [HBE.out]) | (go_at_call 31; first | ((with_reducible refine (HLY.out _).mono ?_); rintro e w' ⟨rfl, hc⟩; (replace hW := hW.trans (hc.mono hW.size); replace kXs := kXs.all hc; replace kY := kY.all hc; replace hGx := (hGx.below hc).more hc.size; replace hGy := (hGy.below hc).more hc.size; clear hc; (have t0 := kXs.cell 0; have t1 := kXs.cell 1; have t2 := kXs.cell 2; have t3 := kXs.cell 3; have t4 := kXs.cell 4; have t5 := kXs.cell 5; have v0 := kY.cell 0; have v1 := kY.cell 1; have v2 := kY.cell 2; have v3 := kY.cell 3; have v4 := kY.cell 4; have v5 := kY.cell 5))) | ((with_reducible refine (HLX.out _).mono ?_); rintro e w' ⟨rfl, hc⟩; (replace hW := hW.trans (hc.mono hW.size); replace kXs := kXs.all hc; replace kY := kY.all hc; replace hGx := (hGx.below hc).more hc.size; replace hGy := (hGy.below hc).more hc.size; clear hc; (have t0 := kXs.cell 0; have t1 := kXs.cell 1; have t2 := kXs.cell 2; have t3 := kXs.cell 3; have t4 := kXs.cell 4; have t5 := kXs.cell 5; have v0 := kY.cell 0; have v1 := kY.cell 1; have v2 := kY.cell 2; have v3 := kY.cell 3; have v4 := kY.cell 4; have v5 := kY.cell 5))))))
                                (all_goals (first | (exfalso; omega) | (go_roundw; (case rel => exact ⟨k + 1, by omega, by go_num, hW⟩); (case measure => simp [intOf]; omega))))
                            · have qc : ((a : Int) == (c : Int)) = false := by simpa using (by omega : ¬ (a : Int) = (c : Int))
                              have hX := HTX.out
                              as_aux_lemma =>
                                (go_wp2_with (first | (go_at_call 32; refine (bytesEqual_any x.ba y.ba x.bc y.bc x.f.bs y.f.bs _ hGx hGy).mono ?_; rintro e w' ⟨rfl, rfl⟩; rw [HBE.out]) | (go_at_call 31; first | ((with_reducible refine (HLY.out _).mono ?_); rintro e w' ⟨rfl, hc⟩; (replace hW := hW.trans (hc.mono hW.size); replace kXs := kXs.all hc; replace kY := kY.all hc; replace hGx := (hGx.below hc).more hc.size; replace hGy := (hGy.below hc).more hc.size; clear hc; (have t0 := kXs.cell 0; have t1 := kXs.cell 1; have t2 := kXs.cell 2; have t3 := kXs.cell 3; have t4 := kXs.cell 4; have t5 := kXs.cell 5; have v0 := kY.cell 0; have v1 := kY.cell 1; have v2 := kY.cell 2; have v3 := kY.cell 3; have v4 := kY.cell 4; have v5 := kY.cell 5))) | ((with_reducible refine (HLX.out _).mono ?_); rintro e w' ⟨rfl, hc⟩; (replace hW := hW.trans (hc.mono hW.size); replace kXs := kXs.all hc; replace kY := kY.all hc; replace hGx := (hGx.below hc).more hc.size; replace hGy := (hGy.below hc).more hc.size; clear hc; (have t0 := kXs.cell 0; have t1 := kXs.cell 1; have t2 := kXs.cell 2; have t3 := kXs.cell 3; have t4 := kXs.cell 4; have t5 := kXs.cell 5; have v0 := kY.cell 0; have v1 := kY.cell 1; have v2 := kY.cell 2; have v3 := kY.cell 3; have v4 := kY.cell 4; have v5 := kY.cell 5))))))
                                (all_goals (first | (exfalso; omega) | (go_roundw; (case rel => exact ⟨k + 1, by omega, by go_num, hW⟩); (case measure => simp [intOf]; omega))))
                        · have qa : ((al : Int) == y.f.align) = false := by simpa using hal
                          have HBE : Hid ((x.f.bs == y.f.bs) = (x.f.bs == y.f.bs)) := by show _ = _; rfl
                          clear hal
                          by_cases hac : a = c
                          · subst hac
                            as_aux_lemma =>
                              (go_wp2_with (first | (go_at_call 32; refine (bytesEqual_any x.ba y.ba x.bc y.bc x.f.bs y.f.bs _ hGx hGy).mono ?_; rintro e w' ⟨rfl, rfl⟩; rw [HBE.out]) | (go_at_call 31; first | ((with_reducible refine (HLY.out _).mono ?_); rintro e w' ⟨rfl, hc⟩; (replace hW := hW.trans (hc.mono hW.size); replace kXs := kXs.all hc; replace kY := kY.all hc; replace hGx := (hGx.below hc).more hc.size; replace hGy := (hGy.below hc).more hc.size; clear hc; (have t0 := kXs.cell 0; have t1 := kXs.cell 1; have t2 := kXs.cell 2; have t3 := kXs.cell 3; have t4 := kXs.cell 4; have t5 := kXs.cell 5; have v0 := kY.cell 0; have v1 := kY.cell 1; have v2 := kY.cell 2; have v3 := kY.cell 3; have v4 := kY.cell 4; have v5 := kY.cell 5))) | ((with_reducible refine (HLX.out _).mono ?_); rintro e w' ⟨rfl, hc⟩; (replace hW := hW.trans (hc.mono hW.size); replace kXs := kXs.all hc; replace kY := kY.all hc; replace hGx := (hGx.below hc).more hc.size; replace hGy := (hGy.below hc).more hc.size; clear hc; (have t0 := kXs.cell 0; have t1 := kXs.cell 1; have t2 := kXs.cell 2; have t3 := kXs.cell 3; have t4 := kXs.cell 4; have t5 := kXs.cell 5; have v0 := kY.cell 0; have v1 := kY.cell 1; have v2 := kY.cell 2; have v3 := kY.cell 3; have v4 := kY.cell 4; have v5 := kY.cell 5))))))
                              (all_goals (first | (exfalso; omega) | (go_roundw; (case rel => exact ⟨k + 1, by omega, by go_num, hW⟩); (case measure => simp [intOf]; omega))))
                          · have qc : ((a : Int) == (c : Int)) = false := by simpa using (by omega : ¬ (a : Int) = (c : Int))
                            have hX := HTX.out
                            as_aux_lemma =>
                              (go_wp2_with (first | (go_at_call 32; refine (bytesEqual_any x.ba y.ba x.bc y.bc x.f.bs y.f.bs _ hGx hGy).mono ?_; rintro e w' ⟨rfl, rfl⟩; rw [HBE.out]) | (go_at_call 31; first | ((with_reducible refine (HLY.out _).mono ?_); rintro e w' ⟨rfl, hc⟩; (replace hW := hW.trans (hc.mono hW.size); replace kXs := kXs.all hc; replace kY := kY.all hc; replace hGx := (hGx.below hc).more hc.size; replace hGy := (hGy.below hc).more hc.size; clear hc; (have t0 := kXs.cell 0; have t1 := kXs.cell 1; have t2 := kXs.cell 2; have t3 := kXs.cell 3; have t4 := kXs.cell 4; have t5 := kXs.cell 5; have v0 := kY.cell 0; have v1 := kY.cell 1; have v2 := kY.cell 2; have v3 := kY.cell 3; have v4 := kY.cell 4; have v5 := kY.cell 5))) | ((with_reducible refine (HLX.out _).mono ?_); rintro e w' ⟨rfl, hc⟩; (replace hW := hW.trans (hc.mono hW.size); replace kXs := kXs.all hc; replace kY := kY.all hc; replace hGx := (hGx.below hc).more hc.size; replace hGy := (hGy.below hc).more hc.size; clear hc; (have t0 := kXs.cell 0; have t1 := kXs.cell 1; have t2 := kXs.cell 2; have t3 := kXs.cell 3; have t4 := kXs.cell 4; have t5 := kXs.cell 5; have v0 := kY.cell 0; have v1 := kY.cell 1; have v2 := kY.cell 2; have v3 := kY.cell 3; have v4 := kY.cell 4; have v5 := kY.cell 5))))))
                              (all_goals (first | (exfalso; omega) | (go_roundw; (case rel => exact ⟨k + 1, by omega, by go_num, hW⟩); (case measure => simp [intOf]; omega))))
                      · have q7 : ((s : Int) == 3) = false := by simp; omega
                        have q8 : ((s : Int) != 3) = true := by simp; omega
                        have hX := HNT.out h3
                        have q9 : decide ((a : Int) < (c : Int) + (lg : Int)) = false := decide_eq_false (by omega)
                        have HBE : Hid ((x.f.bs == y.f.bs) = (x.f.bs == y.f.bs)) := by show _ = _; rfl
                        clear h3
                        as_aux_lemma =>
                          (go_wp2_with (first | (go_at_call 32; refine (bytesEqual_any x.ba y.ba x.bc y.bc x.f.bs y.f.bs _ hGx hGy).mono ?_; rintro e w' ⟨rfl, rfl⟩; rw [HBE.out]) | (go_at_call 31; first | ((with_reducible refine (HLY.out _).mono ?_); rintro e w' ⟨rfl, hc⟩; (replace hW := hW.trans (hc.mono hW.size); replace kXs := kXs.all hc; replace kY := kY.all hc; replace hGx := (hGx.below hc).more hc.size; replace hGy := (hGy.below hc).more hc.size; clear hc; (have t0 := kXs.cell 0; have t1 := kXs.cell 1; have t2 := kXs.cell 2; have t3 := kXs.cell 3; have t4 := kXs.cell 4; have t5 := kXs.cell 5; have v0 := kY.cell 0; have v1 := kY.cell 1; have v2 := kY.cell 2; have v3 := kY.cell 3; have v4 := kY.cell 4; have v5 := kY.cell 5))) | ((with_reducible refine (HLX.out _).mono ?_); rintro e w' ⟨rfl, hc⟩; (replace hW := hW.trans (hc.mono hW.size); replace kXs := kXs.all hc; replace kY := kY.all hc; replace hGx := (hGx.below hc).more hc.size; replace hGy := (hGy.below hc).more hc.size; clear hc; (have t0 := kXs.cell 0; have t1 := kXs.cell 1; have t2 := kXs.cell 2; have t3 := kXs.cell 3; have t4 := kXs.cell 4; have t5 := kXs.cell 5; have v0 := kY.cell 0; have v1 := kY.cell 1; have v2 := kY.cell 2; have v3 := kY.cell 3; have v4 := kY.cell 4; have v5 := kY.cell 5))))))
                          (all_goals (first | (exfalso; omega) | (go_roundw; (case rel => exact ⟨k + 1, by omega, by go_num, hW⟩); (case measure => simp [intOf]; omega))))
                    · have qs : (y.f.sect != ((s : Nat) : Int)) = true := by simpa using hse
                      clear hse
                      go_wp2_with fail
                      go_roundw
                      case rel => exact ⟨k + 1, by omega, by go_num, hW⟩
                      case measure => simp [intOf]; omega
                · obtain rfl : k = i := by omega
                  go_wp2_with fail
                  go_roundw
                  case rel => exact ⟨k + 1, by omega, by go_num, hbr.trans (hW.mono hbr.size)⟩
                  case measure => simp [intOf]; omega
          · as_aux_lemma =>
              obtain rfl : i = p.frs.length := by omega
              have x1 := (kL.all hbr).cell 1
              go_wp2_with fail
              clear x1
              go_loopw [246] (fun j wx => ∃ k : Nat, k ≤ (layEnd p.er n).ns.length ∧ j = .int .i64 k ∧ Below w3.heap.size w3 wx) (fun j _ => (layEnd p.er n).ns.length - (intOf j).toNat)
              case atStart => exact ⟨0, Nat.zero_le _, rfl, hbr⟩
              case round =>
                clear hbr
                obtain ⟨k, hk, rfl, hbr⟩ := hrel
                by_cases hlt : k < (layEnd p.er n).ns.length
                · as_aux_lemma =>
                    obtain ⟨nm, hnm⟩ : ∃ x, (layEnd p.er n).ns[k]? = some x := ⟨_, List.getElem?_eq_getElem hlt⟩
                    have hlc := HLL.out
                    obtain ⟨c, hcc⟩ : ∃ x, (layEnd p.er n).cs[k]? = some x := ⟨_, List.getElem?_eq_getElem (by omega)⟩
                    obtain ⟨d, r1, r2, r3, r4, r5, r6, r7, r8, r9, r10, r11⟩ := com_row H0.out hnm hcc
                    have HRW := Lib.hid (com_row H0.out hnm hcc)
                    obtain ⟨b1, o1, e1, c0⟩ := str_get (hln.below hbr) hnm
                    obtain ⟨b2, o2, u2, e2, z2, f2, d2⟩ := (hlk.below hbr).at_ (show k < (layEnd p.er n).cs.length by omega)
                    rw [natsV_at hcc] at f2
                    injection f2 with f2
                    subst f2
                    have zr := Nat.lt_of_lt_of_le z2 hbr.size
                    have HNM := Lib.hid hnm
                    have HCC := Lib.hid hcc
                    have hkc : k < (layEnd p.er n).cs.length := by omega
                    have hce := cs_le H0.out hcc
                    clear r8 r9 r10 r11 hnm hcc hlc
                    go_upto_region 34 with (fail)
                    have y0 := (kP.all hbr).cell 0
                    have y1 := (kP.all hbr).cell 1
                    go_wp2_with fail
                    refine (findOut_any p nm wr (hA.keep hbr hbr.size)).mono ?_
                    rintro e w5 ⟨rfl, hb5⟩
                    rw [findP_good HC.out, r1]
                    dsimp only
                    clear y0 y1
                    obtain ⟨da, hda⟩ : ∃ a, a = d.align.toNat := ⟨_, rfl⟩
                    obtain ⟨ds, hds⟩ : ∃ a, a = d.size.toNat := ⟨_, rfl⟩
                    rw [r2, ← r4, ← r5, ← hda, ← hds]
                    have hrw2 := HRW.out
                    obtain ⟨d', s1, _, _, _, _, _, _, s8, s9, s10, s11⟩ := hrw2
                    obtain rfl : d = d' := by rw [r1] at s1; injection s1
                    rw [← hda] at r3 r6 s8
                    rw [← hds] at r7 s10 s11
                    have HS11 := Lib.hid s11
                    have htn := toN_five p.er n
                    rw [← htn] at s10
                    have htl := toN_le HC.out H0.out (show 5 ≤ 5 by omega)
                    have hsl := (sec_row H0.out (show 1 ≤ 5 by omega) (show 5 ≤ 5 by omega)).2.2.2.2
                    have hsf := (sec_row H0.out (show 1 ≤ 5 by omega) (show 5 ≤ 5 by omega)).2.2.1
                    have hse9 : secFrom p.er.frs n 5 ≤ c := Nat.le_trans (secEnd_next (lays_of HC.out) n 4).2.1 s9
                    have q0 : (((c : Nat) : Int) % (da : Int) != 0) = false := by
                      have : ((c : Nat) : Int) % (da : Int) = ((c % da : Nat) : Int) := by omega
                      rw [this, s8]; rfl
                    have q1 : decide ((da : Int) < 1) = false := decide_eq_false (by omega)
                    have q2 : decide (((c : Nat) : Int) < ((secFrom p.er.frs n 5 : Nat) : Int)) = false := decide_eq_false (by omega)
                    have q3 : decide (((toN p.er n 5 : Nat) : Int) < (c : Int) + (ds : Int)) = false := decide_eq_false (by omega)
                    have q4 : ((da : Int) == 0) = false := by simp; omega
                    have q5 : decide (c < secFrom p.er.frs n 5) = false := decide_eq_false (by omega)
                    have HS9 := Lib.hid s9
                    have HDA := Lib.hid hda
                    have HDS := Lib.hid hds
                    have HR1 := Lib.hid r1
                    clear htn hsl hsf hse9 r1 r2 r4 r5 hda hds s1 s8 s9 s10 s11 HRW
                    go_upto_region 35 with (fail)
                    have kD := Blk.new w5 77 #[.string d.name, .int .i64 3, .int .i64 d.frag, .int .i64 d.at_, .int .i64 (ds : Nat), .int .i64 (da : Nat)]
                    have hbx : Below w5.heap.size w5 (w5.alloc (.cells #[.string d.name, .int .i64 3, .int .i64 d.frag, .int .i64 d.at_, .int .i64 (ds : Nat), .int .i64 (da : Nat)] 77)) := by (repeat' (first | exact Below.refl _ _ | assumption | refine Below.setCell ?_ (by first | omega | exact Below.size (by assumption) | (simp; done) | (simp; omega)) _ | refine Below.alloc ?_ (by first | omega | exact Below.size (by assumption) | (simp; done) | (simp; omega)) _ | refine Below.drew ?_ | refine below_drewN ?_ _))
                    have hbr := hbr.trans ((hb5.mono (Nat.le_refl _)).trans (hbx.mono hb5.size) |>.mono hbr.size)
                    obtain ⟨gD, hgD⟩ : ∃ g, g = w5.heap.size := ⟨_, rfl⟩
                    obtain ⟨W6, hW6⟩ : ∃ W, W = w5.alloc (.cells #[.string d.name, .int .i64 3, .int .i64 d.frag, .int .i64 d.at_, .int .i64 (ds : Nat), .int .i64 (da : Nat)] 77) := ⟨_, rfl⟩
                    rw [← hgD] at kD ⊢
                    rw [← hW6] at kD hbr ⊢
                    have d2 : W6.cell? ⟨b2, o2 + k, none⟩ = some (.int .i64 (c : Nat)) := by
                      rw [hW6, World.cell?_alloc_lt _ _ _ (Nat.lt_of_lt_of_le zr hb5.size), hb5.cell zr]
                      exact d2
                    clear hW6 hgD hbx hb5
                    have x2 := (kL.all hbr).cell 2
                    rw [e2] at x2
                    go_upto_region 36 with (fail)
                    have t1 := kD.cell 1
                    have t4 := kD.cell 4
                    have t5 := kD.cell 5
                    have x8 := (kL.all hbr).cell 8
                    have x14 := (kL.all hbr).cell 14
                    go_upto_region 38 with (fail)
                    have y0 := (kP.all hbr).cell 0
                    go_wp2_with fail
                    clear y0 t1 t4 t5 x2 x8 x14
                    have hbr6 := hbr
                    go_loopw [301] (fun j wx => ∃ m : Nat, m ≤ p.frs.length ∧ j = .int .i64 m ∧ Below w3.heap.size w3 wx) (fun j _ => p.frs.length - (intOf j).toNat)
                    case atStart => exact ⟨0, Nat.zero_le _, rfl, hbr⟩
                    case round =>
                      clear hbr
                      obtain ⟨m, hm, rfl, hbr⟩ := hrel
                      by_cases hml : m < p.frs.length
                      · as_aux_lemma =>
                          obtain ⟨y, hy⟩ : ∃ y, p.frs[m]? = some y := ⟨_, List.getElem?_eq_getElem hml⟩
                          have hye : p.er.frs[m]? = some y.f := by simp [PtM.er, hy]
                          obtain ⟨b, off, hfa, bl, c0', c1, c2, c3, c4, c5⟩ := fg_get (hA.keep hbr hbr.size).fr hy
                          obtain ⟨b3, o3, u3, e3, z3, f3, d3⟩ := (hlf.below hbr).at_ hml
                          rw [natsV_at (show (layFr p.er n)[m]? = some (adrOf p.er.frs n m) by unfold layFr; rw [List.getElem?_map, List.getElem?_range (List.getElem?_eq_some_iff.1 hye).1]; rfl)] at f3
                          injection f3 with f3
                          subst f3
                          rw [hfa]
                          have zr3 := Nat.lt_of_lt_of_le z3 hbr.size
                          have had := adr_in (base := n) (lays_of HC.out) hye
                          have had3 := adrOf_le (lays_of HC.out) HN.out hye
                          have hln0 := (lays_of HC.out).ln0 (List.mem_of_getElem? hye)
                          go_upto_region 41 with (fail)
                          have kY := Blk.new wr 73 #[.int .i64 y.f.sect, .int .i64 y.f.align, .string y.f.group, .slice y.ba y.f.bs.length y.bc, .int .i64 y.f.size, .slice y.ra y.f.rs.length y.rc]
                          have hbx : Below wr.heap.size wr (wr.alloc (.cells #[.int .i64 y.f.sect, .int .i64 y.f.align, .string y.f.group, .slice y.ba y.f.bs.length y.bc, .int .i64 y.f.size, .slice y.ra y.f.rs.length y.rc] 73)) := by (repeat' (first | exact Below.refl _ _ | assumption | refine Below.setCell ?_ (by first | omega | exact Below.size (by assumption) | (simp; done) | (simp; omega)) _ | refine Below.alloc ?_ (by first | omega | exact Below.size (by assumption) | (simp; done) | (simp; omega)) _ | refine Below.drew ?_ | refine below_drewN ?_ _))
                          have hbr := hbr.trans (hbx.mono hbr.size)
                          obtain ⟨gY, hgY⟩ : ∃ g, g = wr.heap.size := ⟨_, rfl⟩
                          obtain ⟨W7, hW7⟩ : ∃ W, W = wr.alloc (.cells #[.int .i64 y.f.sect, .int .i64 y.f.align, .string y.f.group, .slice y.ba y.f.bs.length y.bc, .int .i64 y.f.size, .slice y.ra y.f.rs.length y.rc] 73) := ⟨_, rfl⟩
                          rw [← hgY] at kY ⊢
                          rw [← hW7] at kY hbr ⊢
                          have d3 : W7.cell? ⟨b3, o3 + m, none⟩ = some (.int .i64 (adrOf p.er.frs n m : Nat)) := by rw [hW7, World.cell?_alloc_lt _ _ _ zr3]; exact d3
                          clear hW7 hgY hbx c0' c1 c2 c3 c4 c5 zr3
                          have v0 := kY.cell 0
                          have v4 := kY.cell 4
                          have x0 := (kL.all hbr).cell 0
                          rw [e3] at x0
                          by_cases h5 : y.f.sect = 5
                          · have qs : (y.f.sect == 5) = true := by simpa using h5
                            have hsz : y.f.size = (y.f.ln : Nat) := by
                              rw [hln0.2]
                              unfold Frg.long
                              rw [if_pos h5]
                            rw [hsz] at v4
                            have h2 := had.2.2
                            rw [h5] at h2
                            have h3 : adrOf p.er.frs n m + y.f.ln ≤ c := Nat.le_trans h2 HS9.out
                            obtain ⟨ly, hly⟩ : ∃ l, l = y.f.ln := ⟨_, rfl⟩
                            obtain ⟨ay, hay⟩ : ∃ l, l = adrOf p.er.frs n m := ⟨_, rfl⟩
                            rw [← hly] at h3 hln0 v4
                            rw [← hay] at h3 had3 d3
                            have l64 := hln0.1
                            have hwr : IntKind.i64.wrap ((ay : Int) + (ly : Int)) = (ay : Int) + (ly : Int) := IntWalk.i64_in _ (by omega)
                            have q6 : decide ((c : Int) < IntKind.i64.wrap ((ay : Int) + (ly : Int))) = false := by rw [hwr]; exact decide_eq_false (by omega)
                            have q7 : decide ((c : Int) < (ay : Int) + (ly : Int)) = false := decide_eq_false (by omega)
                            have q8 : decide (c < ay + ly) = false := decide_eq_false (by omega)
                            clear h5 hsz h2 hly hay hln0 had hwr hye hy
                            go_quiet (fail)
                            go_wp2_with fail
                            go_roundw
                            case rel => exact ⟨m + 1, by omega, by go_num, by (repeat' (first | exact Below.refl _ _ | assumption | refine Below.setCell ?_ (by first | omega | exact Below.size (by assumption) | (simp; done) | (simp; omega)) _ | refine Below.alloc ?_ (by first | omega | exact Below.size (by assumption) | (simp; done) | (simp; omega)) _ | refine Below.drew ?_ | refine below_drewN ?_ _))⟩
                            case measure => simp [intOf]; omega
                          · have qs : (y.f.sect == 5) = false := by simpa using h5
                            clear h5 had hln0 hye hy
                            go_quiet (fail)
                            go_wp2_with fail
                            go_roundw
                            case rel => exact ⟨m + 1, by omega, by go_num, by (repeat' (first | exact Below.refl _ _ | assumption | refine Below.setCell ?_ (by first | omega | exact Below.size (by assumption) | (simp; done) | (simp; omega)) _ | refine Below.alloc ?_ (by first | omega | exact Below.size (by assumption) | (simp; done) | (simp; omega)) _ | refine Below.drew ?_ | refine below_drewN ?_ _))⟩
                            case measure => simp [intOf]; omega
                      · as_aux_lemma =>
                          obtain rfl : m = p.frs.length := by omega
                          rcases Nat.eq_zero_or_pos k with hk0 | hk0
                          · subst hk0
                            go_wp2_with fail
                            go_roundw
                            case rel => exact ⟨1, by omega, by go_num, hbr⟩
                            case measure => simp [intOf]; omega
                          · obtain ⟨k', rfl⟩ : ∃ k', k = k' + 1 := ⟨k - 1, by omega⟩
                            rw [show ((k' + 1 : Nat) : Int) = (k' : Int) + 1 from rfl]
                            obtain ⟨nm', hnm'⟩ : ∃ x, (layEnd p.er n).ns[k']? = some x := ⟨_, List.getElem?_eq_getElem (by omega)⟩
                            obtain ⟨c', hcc'⟩ : ∃ x, (layEnd p.er n).cs[k']? = some x := ⟨_, List.getElem?_eq_getElem (by omega)⟩
                            obtain ⟨d', r1, r2, r3', r4, r5, r6', r7', _, _, _, r11⟩ := com_row H0.out hnm' hcc'
                            obtain ⟨g1, g2, g3⟩ := r11 (k' + 1) nm c (by omega) HNM.out HCC.out
                            have hce' := cs_le H0.out hcc'
                            obtain ⟨b3, o3, e3, n3⟩ := str_get (hln.below hbr) hnm'
                            have z3 : b3 < wr.heap.size := by
                              obtain ⟨b', o', e', z', _⟩ := (hln.below hbr).2 (by omega)
                              rw [e3] at e'
                              injection e' with e'
                              injection e' with e1 _
                              rw [e1]
                              exact Nat.lt_of_lt_of_le z' hbr.size
                            obtain ⟨b4, o4, u4', e4, z4, f4, d4⟩ := (hlk.below hbr).at_ (show k' < (layEnd p.er n).cs.length by omega)
                            rw [natsV_at hcc'] at f4
                            injection f4 with f4
                            subst f4
                            have hAr := hA.keep hbr hbr.size
                            have y0 := (kP.all hbr).cell 0
                            have y1 := (kP.all hbr).cell 1
                            have x1 := (kL.all hbr).cell 1
                            rw [e3] at x1

                            have zP := (kP.all hbr).lt
                            have zL := (kL.all hbr).lt
                            have hkb : 0 ≤ ((k' : Nat) : Int) ∧ ((k' : Nat) : Int) < ((layEnd p.er n).ns.length : Int) := ⟨by omega, by omega⟩
                            have hwk : IntKind.i64.wrap ((k' : Nat) : Int) = (k' : Int) := IntWalk.i64_in _ (by omega)
                            have HFI : Hid (∀ W, p.At W W.heap.size → Calls Try.prog 33 #[.agg #[.slice p.fa p.frs.length p.fc, .slice p.da p.dfs.length p.dc], .string nm'] W fun e w' => e = .returned (.tuple #[.agg #[.string (d').name, .int .i64 (d').kind, .int .i64 (d').frag, .int .i64 (d').at_, .int .i64 (d').size, .int .i64 (d').align], .int .i64 0]) ∧ Below W.heap.size W w') := by
                              intro W hW
                              have := findOut_any p nm' W hW
                              rw [findP_good HC.out, r1] at this
                              exact this
                            obtain ⟨ds', hds'⟩ : ∃ a, a = d'.size.toNat := ⟨_, rfl⟩
                            rw [← hds'] at r5 r7' g1
                            have HD5 := Lib.hid r5
                            have HK3 := Lib.hid r2
                            have HG2 := Lib.hid g2
                            have HG3 := Lib.hid g3
                            have HSS : Hid (∀ wv, Below wr.heap.size wr wv → wv.cell? ⟨gP, 0, none⟩ = some (.slice p.fa p.frs.length p.fc) ∧ wv.cell? ⟨gP, 1, none⟩ = some (.slice p.da p.dfs.length p.dc) ∧ wv.cell? ⟨gL, 1, none⟩ = some (.slice (some ⟨b3, o3, none⟩) (layEnd p.er n).ns.length l.nc) ∧ wv.cell? ⟨b3, o3 + k', none⟩ = some (.string nm')) := by
                              intro wv hv
                              obtain ⟨hcc, _⟩ := bcell hv
                              exact ⟨(hcc gP 0 zP).trans y0, (hcc gP 1 zP).trans y1, (hcc gL 1 zL).trans x1, (hcc b3 _ z3).trans n3⟩
                            have HAR := Lib.hid hAr
                            have z4' := Nat.lt_of_lt_of_le z4 hbr.size
                            have E3 := Lib.hid e3
                            have E4 := Lib.hid e4
                            clear r1 r2 r3' r4 r5 r6' r11 g2 g3 hds' y0 y1 x1 n3 hAr e1 e2 e3 e4
                            go_upto_region 45 with (fail)
                            go_cut [23, 24] (fun s t wx => ∃ gE : Nat, s = .pointer (some ⟨gE, 0, none⟩) ∧ t = .int .i64 0 ∧ Blk wx gE 77 #[.string (d').name, .int .i64 (d').kind, .int .i64 (d').frag, .int .i64 (d').at_, .int .i64 (d').size, .int .i64 (d').align] ∧ Below wr.heap.size wr wx)
                            case first =>
                              have hs : Below wr.heap.size wr wr.drew := (Below.refl _ _).drew
                              refine wp_region_held_drew (S := (fun w' => w'.cell? ⟨gP, 0, none⟩ = some (.slice p.fa p.frs.length p.fc) ∧ w'.cell? ⟨gP, 1, none⟩ = some (.slice p.da p.dfs.length p.dc) ∧ w'.cell? ⟨gL, 1, none⟩ = some (.slice (some ⟨b3, o3, none⟩) (layEnd p.er n).ns.length l.nc) ∧ w'.cell? ⟨b3, o3 + k', none⟩ = some (.string nm'))) (by kernel_rfl) (HSS.out _ hs) (fun hHeld => ?_)
                              obtain ⟨wv, hwv⟩ : ∃ x, x = wr.drew := ⟨_, rfl⟩
                              rw [← hwv] at hs hHeld ⊢
                              clear hwv
                              (refine wpAnyH_take (i := 0) (oi := { dst := some 325, op := Op.load 44 (Operand.tmp 2), type := 44, pos := "law1.go:428", after := #[], guard := none }) (v := ?_) rfl (by kernel_rfl) (by kernel_rfl) (by kernel_rfl) (fun _ _ _ h => h) (Or.inl ⟨by rfl, ?_⟩) (by assumption) ?_; rotate_left; (focus (intro w hSw; (try dsimp only at hSw); go_simp; (try with_reducible rfl))); (try simp only [Act.put, List.setIfInBounds_toArray, List.set_cons_zero, List.set_cons_succ]))
                              (refine wpAnyH_take (i := 1) (oi := { dst := some 326, op := Op.fieldAddr 67 (Operand.tmp 5) 1, type := 0, pos := "law1.go:428", after := #[], guard := none }) (v := ?_) rfl (by kernel_rfl) (by kernel_rfl) (by kernel_rfl) (fun _ _ _ h => h) (Or.inl ⟨by rfl, ?_⟩) (by assumption) ?_; rotate_left; (focus (intro w hSw; (try dsimp only at hSw); go_simp; (try with_reducible rfl))); (try simp only [Act.put, List.setIfInBounds_toArray, List.set_cons_zero, List.set_cons_succ]))
                              (refine wpAnyH_take (i := 2) (oi := { dst := some 327, op := Op.load 64 (Operand.tmp 326), type := 64, pos := "law1.go:428", after := #[{ on := 1, ground := Ground.data }], guard := none }) (v := ?_) rfl (by kernel_rfl) (by kernel_rfl) (by kernel_rfl) (fun _ _ _ h => h) (Or.inl ⟨by rfl, ?_⟩) (by assumption) ?_; rotate_left; (focus (intro w hSw; (try dsimp only at hSw); go_simp; (try with_reducible rfl))); (try simp only [Act.put, List.setIfInBounds_toArray, List.set_cons_zero, List.set_cons_succ]))
                              (refine wpAnyH_take (i := 3) (oi := { dst := some 328, op := Op.move (Operand.tmp 16), type := 3, pos := "law1.go:428", after := #[], guard := none }) (v := ?_) rfl (by kernel_rfl) (by kernel_rfl) (by kernel_rfl) (fun _ _ _ h => h) (Or.inl ⟨by rfl, ?_⟩) (by assumption) ?_; rotate_left; (focus (intro w hSw; (try dsimp only at hSw); go_simp; (try with_reducible rfl))); (try simp only [Act.put, List.setIfInBounds_toArray, List.set_cons_zero, List.set_cons_succ]))
                              (refine wpAnyH_take (i := 4) (oi := { dst := some 329, op := Op.binOp BinOp.sub 3 (Operand.tmp 328) (Operand.const (Value.int IntKind.i64 1)) 3, type := 3, pos := "law1.go:428", after := #[{ on := 3, ground := Ground.data }], guard := none }) (v := ?_) rfl (by kernel_rfl) (by kernel_rfl) (by kernel_rfl) (fun _ _ _ h => h) (Or.inl ⟨by rfl, ?_⟩) (by assumption) ?_; rotate_left; (focus (intro w hSw; (try dsimp only at hSw); go_simp; (try rw [hwk]); (try rw [if_pos hkb]); (try with_reducible rfl))); (try simp only [Act.put, List.setIfInBounds_toArray, List.set_cons_zero, List.set_cons_succ]))
                              (refine wpAnyH_take (i := 5) (oi := { dst := some 330, op := Op.indexAddr 64 (Operand.tmp 327) (Operand.tmp 329), type := 0, pos := "law1.go:428", after := #[{ on := 2, ground := Ground.data }, { on := 4, ground := Ground.data }], guard := none }) (v := ?_) rfl (by kernel_rfl) (by kernel_rfl) (by kernel_rfl) (fun _ _ _ h => h) (Or.inl ⟨by rfl, ?_⟩) (by assumption) ?_; rotate_left; (focus (intro w hSw; (try dsimp only at hSw); go_simp; (try rw [hwk]); (try rw [if_pos hkb]); (try with_reducible rfl))); (try simp only [Act.put, List.setIfInBounds_toArray, List.set_cons_zero, List.set_cons_succ]))
                              (refine wpAnyH_take (i := 6) (oi := { dst := some 331, op := Op.load 9 (Operand.tmp 330), type := 9, pos := "law1.go:428", after := #[{ on := 5, ground := Ground.data }], guard := none }) (v := ?_) rfl (by kernel_rfl) (by kernel_rfl) (by kernel_rfl) (fun _ _ _ h => h) (Or.inl ⟨by rfl, ?_⟩) (by assumption) ?_; rotate_left; (focus (intro w hSw; (try dsimp only at hSw); go_simp; (try with_reducible rfl))); (try simp only [Act.put, List.setIfInBounds_toArray, List.set_cons_zero, List.set_cons_succ]))
                              refine wpAnyH_ready (rs := [7, 11]) (by kernel_rfl) (by simp) ?_
                              refine AllReadyH.cons (o := { dst := some 332, op := Op.call { callee := Callee.value (Operand.func 33), args := #[Operand.tmp 325, Operand.tmp 331], argTypes := #[44, 9] }, type := 78, pos := "law1.go:428", after := #[{ on := 0, ground := Ground.data }, { on := 6, ground := Ground.data }], guard := none }) rfl (fun K hK => ?_) (AllReadyH.cons (o := { dst := some 23, op := Op.alloc 77, type := 0, pos := "law1.go:428", after := #[], guard := none }) rfl (fun K hK => ?_) AllReadyH.nil)
                              · as_aux_lemma =>
                                  (go_simp; refine (HFI.out _ (HAR.out.keep hs hs.size)).mono ?_; rintro e wu ⟨rfl, hb8⟩; replace hs := hs.trans (hb8.mono hs.size); (try replace kE := kE.all hb8); clear hb8; go_wp2_with fail; refine hK.out _ _ (HSS.out _ hs) (fun hHeld => ?_); (clear hK K; (try simp only [Act.put, List.setIfInBounds_toArray, List.set_cons_zero, List.set_cons_succ])); obtain ⟨wv, hwv⟩ : ∃ x, x = wu := ⟨_, rfl⟩; rw [← hwv] at hs hHeld ⊢; (try rw [← hwv] at kE); clear hwv; (refine wpAnyH_take (i := 8) (oi := { dst := some 324, op := Op.move (Operand.tmp 332), type := 78, pos := "law1.go:428", after := #[{ on := 7, ground := Ground.data }], guard := none }) (v := ?_) rfl (by kernel_rfl) (by kernel_rfl) (by kernel_rfl) (fun _ _ _ h => h) (Or.inl ⟨by rfl, ?_⟩) (by assumption) ?_; rotate_left; (focus (intro w hSw; (try dsimp only at hSw); go_simp; (try with_reducible rfl))); (try simp only [Act.put, List.setIfInBounds_toArray, List.set_cons_zero, List.set_cons_succ])); (refine wpAnyH_take (i := 9) (oi := { dst := some 333, op := Op.extract (Operand.tmp 324) 0, type := 77, pos := "law1.go:428", after := #[{ on := 8, ground := Ground.data }], guard := none }) (v := ?_) rfl (by kernel_rfl) (by kernel_rfl) (by kernel_rfl) (fun _ _ _ h => h) (Or.inl ⟨by rfl, ?_⟩) (by assumption) ?_; rotate_left; (focus (intro w hSw; (try dsimp only at hSw); go_simp; (try with_reducible rfl))); (try simp only [Act.put, List.setIfInBounds_toArray, List.set_cons_zero, List.set_cons_succ])); (refine wpAnyH_take (i := 10) (oi := { dst := some 334, op := Op.extract (Operand.tmp 324) 1, type := 32, pos := "law1.go:428", after := #[{ on := 8, ground := Ground.data }, { on := 12, ground := Ground.gcOnly Departure.lateStores }], guard := none }) (v := ?_) rfl (by kernel_rfl) (by kernel_rfl) (by kernel_rfl) (fun _ _ _ h => h) (Or.inl ⟨by rfl, ?_⟩) (by assumption) ?_; rotate_left; (focus (intro w hSw; (try dsimp only at hSw); go_simp; (try with_reducible rfl))); (try simp only [Act.put, List.setIfInBounds_toArray, List.set_cons_zero, List.set_cons_succ])))
                                  (refine wpAnyH_ready (rs := [11]) (by kernel_rfl) (by simp) ?_; refine AllReadyH.cons (o := { dst := some 23, op := Op.alloc 77, type := 0, pos := "law1.go:428", after := #[], guard := none }) rfl (fun K hK => ?_) AllReadyH.nil)
                                  (go_simp; refine hK.out _ _ (HSS.out _ (hs.alloc hs.size _)) (fun hHeld => ?_); (clear hK K; (try simp only [Act.put, List.setIfInBounds_toArray, List.set_cons_zero, List.set_cons_succ])); have kE := Blk.new wv 77 #[.string ⟨#[]⟩, .int .i64 0, .int .i64 0, .int .i64 0, .int .i64 0, .int .i64 0]; have hgE : wr.heap.size ≤ wv.heap.size := hs.size; replace hs := hs.alloc hs.size (.cells #[.string ⟨#[]⟩, .int .i64 0, .int .i64 0, .int .i64 0, .int .i64 0, .int .i64 0] 77); obtain ⟨gE, hgE'⟩ : ∃ g, g = wv.heap.size := ⟨_, rfl⟩; rw [← hgE'] at kE hgE ⊢; clear hgE'; obtain ⟨wv, hwv⟩ : ∃ x, x = wv.alloc (.cells #[.string ⟨#[]⟩, .int .i64 0, .int .i64 0, .int .i64 0, .int .i64 0, .int .i64 0] 77) := ⟨_, rfl⟩; rw [← hwv] at kE hs hHeld ⊢; clear hwv)
                                  (have e0 := kE.cell 0; have e1' := kE.cell 1; have e2' := kE.cell 2; have e3' := kE.cell 3; have e4' := kE.cell 4; have e5 := kE.cell 5; have f0 := kE.frozen 0; have f1 := kE.frozen 1; have f2' := kE.frozen 2; have f3 := kE.frozen 3; have f4' := kE.frozen 4; have f5 := kE.frozen 5; replace hs := (((((hs.setCell (p := ⟨gE, 0, none⟩) hgE (.string d'.name)).setCell (p := ⟨gE, 1, none⟩) hgE (.int .i64 d'.kind)).setCell (p := ⟨gE, 2, none⟩) hgE (.int .i64 d'.frag)).setCell (p := ⟨gE, 3, none⟩) hgE (.int .i64 d'.at_)).setCell (p := ⟨gE, 4, none⟩) hgE (.int .i64 d'.size)).setCell (p := ⟨gE, 5, none⟩) hgE (.int .i64 d'.align); (refine wpAnyH_ready (rs := [12]) (by kernel_rfl) (by simp) ?_; refine AllReadyH.cons (o := { dst := none, op := Op.store 77 (Operand.tmp 23) (Operand.tmp 333), type := 0, pos := "law1.go:428", after := #[{ on := 11, ground := Ground.data }, { on := 9, ground := Ground.data }, { on := 7, ground := Ground.chain }, { on := 0, ground := Ground.phase }, { on := 1, ground := Ground.phase }, { on := 2, ground := Ground.phase }, { on := 3, ground := Ground.phase }, { on := 4, ground := Ground.phase }, { on := 5, ground := Ground.phase }, { on := 6, ground := Ground.phase }, { on := 7, ground := Ground.phase }, { on := 8, ground := Ground.phase }, { on := 9, ground := Ground.phase }, { on := 10, ground := Ground.textOnly Departure.lateStores }, { on := 11, ground := Ground.phase }], guard := none }) rfl (fun K hK => ?_) AllReadyH.nil); go_simp; refine hK.out _ _ (HSS.out _ hs) (fun hHeld => ?_); (clear hK K; (try simp only [Act.put, List.setIfInBounds_toArray, List.set_cons_zero, List.set_cons_succ])); have kE2 := (((((kE.set_ 0 (.string d'.name)).set_ 1 (.int .i64 d'.kind)).set_ 2 (.int .i64 d'.frag)).set_ 3 (.int .i64 d'.at_)).set_ 4 (.int .i64 d'.size)).set_ 5 (.int .i64 d'.align); simp only [List.setIfInBounds_toArray, List.set_cons_zero, List.set_cons_succ] at kE2; clear e0 e1' e2' e3' e4' e5 f0 f1 f2' f3 f4' f5 kE; (refine wpAnyH_take (i := 13) (oi := { dst := some 24, op := Op.assign (Operand.tmp 334), type := 32, pos := "law1.go:428", after := #[{ on := 10, ground := Ground.data }, { on := 12, ground := Ground.chain }, { on := 0, ground := Ground.phase }, { on := 1, ground := Ground.phase }, { on := 2, ground := Ground.phase }, { on := 3, ground := Ground.phase }, { on := 4, ground := Ground.phase }, { on := 5, ground := Ground.phase }, { on := 6, ground := Ground.phase }, { on := 7, ground := Ground.phase }, { on := 8, ground := Ground.phase }, { on := 9, ground := Ground.phase }, { on := 10, ground := Ground.phase }, { on := 11, ground := Ground.phase }, { on := 12, ground := Ground.phase }], guard := none }) (v := ?_) rfl (by kernel_rfl) (by kernel_rfl) (by kernel_rfl) (fun _ _ _ h => h) (Or.inl ⟨by rfl, ?_⟩) (by assumption) ?_; rotate_left; (focus (intro w hSw; (try dsimp only at hSw); go_simp; (try with_reducible rfl))); (try simp only [Act.put, List.setIfInBounds_toArray, List.set_cons_zero, List.set_cons_succ])); refine wpAnyH_done (by kernel_rfl) ?_ _; go_wp2; go_meet; exact ⟨gE, rfl, rfl, kE2, hs⟩)
                              · as_aux_lemma =>
                                  (go_simp; refine hK.out _ _ (HSS.out _ (hs.alloc hs.size _)) (fun hHeld => ?_); (clear hK K; (try simp only [Act.put, List.setIfInBounds_toArray, List.set_cons_zero, List.set_cons_succ])); have kE := Blk.new wv 77 #[.string ⟨#[]⟩, .int .i64 0, .int .i64 0, .int .i64 0, .int .i64 0, .int .i64 0]; have hgE : wr.heap.size ≤ wv.heap.size := hs.size; replace hs := hs.alloc hs.size (.cells #[.string ⟨#[]⟩, .int .i64 0, .int .i64 0, .int .i64 0, .int .i64 0, .int .i64 0] 77); obtain ⟨gE, hgE'⟩ : ∃ g, g = wv.heap.size := ⟨_, rfl⟩; rw [← hgE'] at kE hgE ⊢; clear hgE'; obtain ⟨wv, hwv⟩ : ∃ x, x = wv.alloc (.cells #[.string ⟨#[]⟩, .int .i64 0, .int .i64 0, .int .i64 0, .int .i64 0, .int .i64 0] 77) := ⟨_, rfl⟩; rw [← hwv] at kE hs hHeld ⊢; clear hwv)
                                  (refine wpAnyH_ready (rs := [7]) (by kernel_rfl) (by simp) ?_; refine AllReadyH.cons (o := { dst := some 332, op := Op.call { callee := Callee.value (Operand.func 33), args := #[Operand.tmp 325, Operand.tmp 331], argTypes := #[44, 9] }, type := 78, pos := "law1.go:428", after := #[{ on := 0, ground := Ground.data }, { on := 6, ground := Ground.data }], guard := none }) rfl (fun K hK => ?_) AllReadyH.nil)
                                  (go_simp; refine (HFI.out _ (HAR.out.keep hs hs.size)).mono ?_; rintro e wu ⟨rfl, hb8⟩; replace hs := hs.trans (hb8.mono hs.size); (try replace kE := kE.all hb8); clear hb8; go_wp2_with fail; refine hK.out _ _ (HSS.out _ hs) (fun hHeld => ?_); (clear hK K; (try simp only [Act.put, List.setIfInBounds_toArray, List.set_cons_zero, List.set_cons_succ])); obtain ⟨wv, hwv⟩ : ∃ x, x = wu := ⟨_, rfl⟩; rw [← hwv] at hs hHeld ⊢; (try rw [← hwv] at kE); clear hwv; (refine wpAnyH_take (i := 8) (oi := { dst := some 324, op := Op.move (Operand.tmp 332), type := 78, pos := "law1.go:428", after := #[{ on := 7, ground := Ground.data }], guard := none }) (v := ?_) rfl (by kernel_rfl) (by kernel_rfl) (by kernel_rfl) (fun _ _ _ h => h) (Or.inl ⟨by rfl, ?_⟩) (by assumption) ?_; rotate_left; (focus (intro w hSw; (try dsimp only at hSw); go_simp; (try with_reducible rfl))); (try simp only [Act.put, List.setIfInBounds_toArray, List.set_cons_zero, List.set_cons_succ])); (refine wpAnyH_take (i := 9) (oi := { dst := some 333, op := Op.extract (Operand.tmp 324) 0, type := 77, pos := "law1.go:428", after := #[{ on := 8, ground := Ground.data }], guard := none }) (v := ?_) rfl (by kernel_rfl) (by kernel_rfl) (by kernel_rfl) (fun _ _ _ h => h) (Or.inl ⟨by rfl, ?_⟩) (by assumption) ?_; rotate_left; (focus (intro w hSw; (try dsimp only at hSw); go_simp; (try with_reducible rfl))); (try simp only [Act.put, List.setIfInBounds_toArray, List.set_cons_zero, List.set_cons_succ])); (refine wpAnyH_take (i := 10) (oi := { dst := some 334, op := Op.extract (Operand.tmp 324) 1, type := 32, pos := "law1.go:428", after := #[{ on := 8, ground := Ground.data }, { on := 12, ground := Ground.gcOnly Departure.lateStores }], guard := none }) (v := ?_) rfl (by kernel_rfl) (by kernel_rfl) (by kernel_rfl) (fun _ _ _ h => h) (Or.inl ⟨by rfl, ?_⟩) (by assumption) ?_; rotate_left; (focus (intro w hSw; (try dsimp only at hSw); go_simp; (try with_reducible rfl))); (try simp only [Act.put, List.setIfInBounds_toArray, List.set_cons_zero, List.set_cons_succ])))
                                  (have e0 := kE.cell 0; have e1' := kE.cell 1; have e2' := kE.cell 2; have e3' := kE.cell 3; have e4' := kE.cell 4; have e5 := kE.cell 5; have f0 := kE.frozen 0; have f1 := kE.frozen 1; have f2' := kE.frozen 2; have f3 := kE.frozen 3; have f4' := kE.frozen 4; have f5 := kE.frozen 5; replace hs := (((((hs.setCell (p := ⟨gE, 0, none⟩) hgE (.string d'.name)).setCell (p := ⟨gE, 1, none⟩) hgE (.int .i64 d'.kind)).setCell (p := ⟨gE, 2, none⟩) hgE (.int .i64 d'.frag)).setCell (p := ⟨gE, 3, none⟩) hgE (.int .i64 d'.at_)).setCell (p := ⟨gE, 4, none⟩) hgE (.int .i64 d'.size)).setCell (p := ⟨gE, 5, none⟩) hgE (.int .i64 d'.align); (refine wpAnyH_ready (rs := [12]) (by kernel_rfl) (by simp) ?_; refine AllReadyH.cons (o := { dst := none, op := Op.store 77 (Operand.tmp 23) (Operand.tmp 333), type := 0, pos := "law1.go:428", after := #[{ on := 11, ground := Ground.data }, { on := 9, ground := Ground.data }, { on := 7, ground := Ground.chain }, { on := 0, ground := Ground.phase }, { on := 1, ground := Ground.phase }, { on := 2, ground := Ground.phase }, { on := 3, ground := Ground.phase }, { on := 4, ground := Ground.phase }, { on := 5, ground := Ground.phase }, { on := 6, ground := Ground.phase }, { on := 7, ground := Ground.phase }, { on := 8, ground := Ground.phase }, { on := 9, ground := Ground.phase }, { on := 10, ground := Ground.textOnly Departure.lateStores }, { on := 11, ground := Ground.phase }], guard := none }) rfl (fun K hK => ?_) AllReadyH.nil); go_simp; refine hK.out _ _ (HSS.out _ hs) (fun hHeld => ?_); (clear hK K; (try simp only [Act.put, List.setIfInBounds_toArray, List.set_cons_zero, List.set_cons_succ])); have kE2 := (((((kE.set_ 0 (.string d'.name)).set_ 1 (.int .i64 d'.kind)).set_ 2 (.int .i64 d'.frag)).set_ 3 (.int .i64 d'.at_)).set_ 4 (.int .i64 d'.size)).set_ 5 (.int .i64 d'.align); simp only [List.setIfInBounds_toArray, List.set_cons_zero, List.set_cons_succ] at kE2; clear e0 e1' e2' e3' e4' e5 f0 f1 f2' f3 f4' f5 kE; (refine wpAnyH_take (i := 13) (oi := { dst := some 24, op := Op.assign (Operand.tmp 334), type := 32, pos := "law1.go:428", after := #[{ on := 10, ground := Ground.data }, { on := 12, ground := Ground.chain }, { on := 0, ground := Ground.phase }, { on := 1, ground := Ground.phase }, { on := 2, ground := Ground.phase }, { on := 3, ground := Ground.phase }, { on := 4, ground := Ground.phase }, { on := 5, ground := Ground.phase }, { on := 6, ground := Ground.phase }, { on := 7, ground := Ground.phase }, { on := 8, ground := Ground.phase }, { on := 9, ground := Ground.phase }, { on := 10, ground := Ground.phase }, { on := 11, ground := Ground.phase }, { on := 12, ground := Ground.phase }], guard := none }) (v := ?_) rfl (by kernel_rfl) (by kernel_rfl) (by kernel_rfl) (fun _ _ _ h => h) (Or.inl ⟨by rfl, ?_⟩) (by assumption) ?_; rotate_left; (focus (intro w hSw; (try dsimp only at hSw); go_simp; (try with_reducible rfl))); (try simp only [Act.put, List.setIfInBounds_toArray, List.set_cons_zero, List.set_cons_succ])); refine wpAnyH_done (by kernel_rfl) ?_ _; go_wp2; go_meet; exact ⟨gE, rfl, rfl, kE2, hs⟩)
                            case rest =>
                              as_aux_lemma =>
                                obtain ⟨gE, rfl, rfl, kE, hs⟩ := hcut
                                have n3 := (HSS.out _ hs).2.2.2
                                have hbr := hbr.trans (hs.mono hbr.size)
                                have d4 : wc.cell? ⟨b4, o4 + k', none⟩ = some (.int .i64 (c' : Nat)) := (hs.cell (p := ⟨b4, o4 + k', none⟩) z4').trans d4
                                have x1 := (kL.all hbr).cell 1
                                have x2 := (kL.all hbr).cell 2
                                rw [E3.out] at x1
                                rw [E4.out] at x2
                                have t4 := kE.cell 4
                                rw [← HD5.out] at t4
                                have hlt2 : keyOf nm' < keyOf nm := by
                                  rcases Decidable.em (keyOf nm' < keyOf nm) with h | h
                                  · exact h
                                  · exact absurd (List.le_antisymm HG2.out (List.not_lt.1 h)) HG3.out
                                have ql : Op.bytesLess nm'.toList nm.toList = true := by rw [bytesLess_eq, key_toList, key_toList]; exact decide_eq_true hlt2
                                have q6 : decide ((c : Int) < (c' : Int) + (ds' : Int)) = false := decide_eq_false (by omega)
                                have q7 : decide (c < c' + ds') = false := decide_eq_false (by omega)
                                have hwr : IntKind.i64.wrap ((c' : Int) + (ds' : Int)) = (c' : Int) + (ds' : Int) := IntWalk.i64_in _ (by omega)
                                clear hlt2
                                go_upto_region 46 with (fail)
                                go_quiet (fail)
                                go_wp2_with fail
                                go_roundw
                                case rel => exact ⟨k' + 2, by omega, by go_num, by (repeat' (first | exact Below.refl _ _ | assumption | refine Below.setCell ?_ (by first | omega | exact Below.size (by assumption) | (simp; done) | (simp; omega)) _ | refine Below.alloc ?_ (by first | omega | exact Below.size (by assumption) | (simp; done) | (simp; omega)) _ | refine Below.drew ?_ | refine below_drewN ?_ _))⟩
                                case measure => simp [intOf]; omega
                · obtain rfl : k = (layEnd p.er n).ns.length := by omega
                  go_wp2_with fail
                  go_ret
                  exact ⟨rfl, hb.trans (hbr.mono hb.size)⟩
  · have hlc := lay_cells_bad hr h0
    obtain ⟨x, hx⟩ : ∃ x, layE p.er base = x := ⟨_, rfl⟩
    have hx0 : (x != 0) = true := by rw [hx] at h0; simpa using h0
    rw [hx, hlc]
    clear hx h0 hr hlc hA kP
    go_upto_region 2 with (fail)
    have hb2 : Below w1.heap.size w1 (w1.alloc (.cells #[.slice (l).fa 0 (l).fc, .slice (l).na 0 (l).nc, .slice (l).ca 0 (l).cc, .int .i64 0, .int .i64 0, .int .i64 0, .int .i64 0, .int .i64 0, .int .i64 0, .int .i64 0, .int .i64 0, .int .i64 0, .int .i64 0, .int .i64 0, .int .i64 0] 67)) := by (repeat' (first | exact Below.refl _ _ | assumption | refine Below.setCell ?_ (by first | omega | exact Below.size (by assumption) | (simp; done) | (simp; omega)) _ | refine Below.alloc ?_ (by first | omega | exact Below.size (by assumption) | (simp; done) | (simp; omega)) _ | refine Below.drew ?_ | refine below_drewN ?_ _))
    have hb := hb.trans (hb2.mono hb.size)
    obtain ⟨gL, hgL⟩ : ∃ g, g = w1.heap.size := ⟨_, rfl⟩
    obtain ⟨W2, hW2⟩ : ∃ W', W' = w1.alloc (.cells #[.slice (l).fa 0 (l).fc, .slice (l).na 0 (l).nc, .slice (l).ca 0 (l).cc, .int .i64 0, .int .i64 0, .int .i64 0, .int .i64 0, .int .i64 0, .int .i64 0, .int .i64 0, .int .i64 0, .int .i64 0, .int .i64 0, .int .i64 0, .int .i64 0] 67) := ⟨_, rfl⟩
    rw [← hgL]
    rw [← hW2] at hb ⊢
    clear hW2 hgL hb2 hl
    go_wp2_with fail
    refine (laid_any W2).mono ?_
    rintro e w3 ⟨rfl, hb3⟩
    have hb := hb.trans (hb3.mono hb.size)
    clear hb3
    go_wp2_with fail
    refine (laid_any w3).mono ?_
    rintro e w4 ⟨rfl, hb4⟩
    have hb := hb.trans (hb4.mono hb.size)
    clear hb4
    go_wp2_with fail
    go_ret
    exact ⟨rfl, hb⟩
end Go.Proofs.Ytbonpilpmjghbaa
