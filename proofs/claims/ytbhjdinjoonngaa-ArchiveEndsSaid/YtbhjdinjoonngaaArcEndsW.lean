/- ropewalklaw.ArchiveEnds: the call returns true. -/
import Derived.Test.YtbhjdinjoonngaaArcE
import Derived.Test.YtbhjdinjoonngaaArcG
import Derived.Test.YtbhjdinjoonngaaArcT
import Derived.Deep.RegionHeld3
set_option linter.all false
namespace Go.Proofs.Ytbhjdinjoonngaa
open Go.RowKit

theorem split_er {qs : List PtM} {a : Prt} {r : List Prt} (h : qs.map PtM.er = a :: r) : ∃ q0 qr, qs = q0 :: qr ∧ q0.er = a ∧ qr.map PtM.er = r := by
  rcases qs with _ | ⟨q0, qr⟩
  · cases h
  · simp only [List.map_cons, List.cons.injEq] at h
    exact ⟨q0, qr, rfl, h.1, h.2⟩
/-- What archive.Choose says of one part and an archive. -/
theorem ends_chosen {p : Prt} {l : List Prt} {first : List ByteArray} (h0 : (chooseP [⟨false, [p]⟩, ⟨true, l⟩] first).2 = 0) : (∃ r, (chooseP [⟨false, [p]⟩, ⟨true, l⟩] first).1 = p :: r ∧ r.length ≤ l.length ∧ Lacked first l [p] r ∧ ∀ q ∈ l, helpsB first (p :: r) q = false) ∧ ckPart p = 0 ∧ (∀ q ∈ l, ckPart q = 0) ∧ l.length ≤ 8 ∧ first.length ≤ 12 ∧ ∀ s ∈ first, s.size ≤ 8 := by
  unfold chooseP at h0 ⊢
  by_cases hE : chooseE [⟨false, [p]⟩, ⟨true, l⟩] first = 0
  · rw [if_neg (by simp [hE])]
    refine ⟨?_, ?_⟩
    · have e : chosenP [⟨false, [p]⟩, ⟨true, l⟩] first = archP first l [p] := rfl
      obtain ⟨⟨r, hr, hl⟩, hn⟩ := arch_end first l [p]
      have hlen := arch_len first l [p]
      rw [hr] at hn hlen
      simp only [List.length_append, List.length_singleton] at hlen
      exact ⟨r, by rw [e, hr]; rfl, by omega, hl, hn⟩
    · unfold chooseE at hE
      by_cases hc : ckItems [⟨false, [p]⟩, ⟨true, l⟩] = 0
      · rw [if_neg (by simp [hc])] at hE
        obtain ⟨_, hi⟩ := ckItems_zero hc
        have i1 := ckItem_zero (hi ⟨false, [p]⟩ (by simp))
        have i2 := ckItem_zero (hi ⟨true, l⟩ (by simp))
        by_cases h12 : 12 < first.length
        · rw [if_pos h12] at hE; cases hE
        · rw [if_neg h12] at hE
          by_cases hn : (first.any fun s => !nameB s) = true
          · rw [if_pos hn] at hE; cases hE
          · refine ⟨i1.2.2 p (by simp), i2.2.2, i2.1, by omega, fun s hs => ?_⟩
            exact nameB_short ((by simpa using hn : ∀ x ∈ first, nameB x = true) s hs)
      · rw [if_pos hc] at hE; exact absurd hE hc
  · rw [if_pos hE] at h0
    exact absurd h0 hE

set_option maxRecDepth 100000 in
set_option maxHeartbeats 20000000 in
theorem archiveEnds_any (p : PtM) (A Af : Option Addr) (c cf : Nat) (l : List PtM) (first : List ByteArray) (w : World) (h : p.At w w.heap.size) (hl : PtsAt w w.heap.size A l) (hlm : l.length ≤ 9223372036854775807) (hf : Reads w w.heap.size 1 Af first.length (strsV first)) (hfm : first.length ≤ 9223372036854775807) :
    Calls Try.prog 7 #[.agg #[.slice p.fa p.frs.length p.fc, .slice p.da p.dfs.length p.dc], .slice A l.length c, .slice Af first.length cf] w fun e w' => e = .returned (.bool true) ∧ Below w.heap.size w w' := by
  have kP := Blk.new w 44 #[.slice p.fa p.frs.length p.fc, .slice p.da p.dfs.length p.dc]
  have hb : Below w.heap.size w (w.alloc (.cells #[.slice (p).fa (p).frs.length (p).fc, .slice (p).da (p).dfs.length (p).dc] 44)) := by (repeat' (first | exact Below.refl _ _ | assumption | refine Below.setCell ?_ (by first | omega | exact Below.size (by assumption) | (simp; done) | (simp; omega)) _ | refine Below.alloc ?_ (by first | omega | exact Below.size (by assumption) | (simp; done) | (simp; omega)) _ | refine Below.drew ?_ | refine below_drewN ?_ _))
  have h1 := h.all hb
  replace hl := hl.keep hb hb.size
  replace hf := (hf.below hb).more hb.size
  have hmm := @run_makeMap Try.prog
  clear h
  go_enter Try.func7, Try.ntmps7
  go_upto_region 1 with (fail)
  obtain ⟨gP, hgP⟩ : ∃ g, g = w.heap.size := ⟨_, rfl⟩
  obtain ⟨W, hW⟩ : ∃ W, W = w.alloc (.cells #[.slice (p).fa (p).frs.length (p).fc, .slice (p).da (p).dfs.length (p).dc] 44) := ⟨_, rfl⟩
  rw [show Blk (w.alloc (.cells #[.slice (p).fa (p).frs.length (p).fc, .slice (p).da (p).dfs.length (p).dc] 44)) w.heap.size = Blk W gP by rw [hW, hgP]] at kP
  rw [← hgP]
  rw [← hW] at hb h1 hl hf ⊢
  clear hW hgP
  have p0 := kP.cell 0
  have p1 := kP.cell 1
  have zP := kP.lt
  go_wp2_with fail
  obtain ⟨gi, hgi⟩ : ∃ g, g = W.heap.size + 1 := ⟨_, rfl⟩
  obtain ⟨ga, hga⟩ : ∃ g, g = W.heap.size := ⟨_, rfl⟩
  rw [← hgi, ← hga]
  have hs := ((Below.refl W.heap.size W).alloc (Nat.le_refl _) (.cells #[.slice (p).fa (p).frs.length (p).fc, .slice (p).da (p).dfs.length (p).dc] 44)).alloc (by simp <;> omega) (.cells #[.bool false, .slice (some ⟨ga, 0, none⟩) 1 1, .bool true, .slice A l.length c] 70)
  have ka := (Blk.new' W 44 #[.slice p.fa p.frs.length p.fc, .slice p.da p.dfs.length p.dc] hga).alloc (.cells #[.bool false, .slice (some ⟨ga, 0, none⟩) 1 1, .bool true, .slice A l.length c] 70)
  have ki := Blk.new' (W.alloc (.cells #[.slice (p).fa (p).frs.length (p).fc, .slice (p).da (p).dfs.length (p).dc] 44)) 70 #[.bool false, .slice (some ⟨ga, 0, none⟩) 1 1, .bool true, .slice A l.length c] (g := gi) (by simp; exact hgi)
  replace kP := kP.all hs
  replace h1 := h1.all hs
  replace hl := hl.keep hs hs.size
  replace hf := (hf.below hs).more hs.size
  replace hb := hb.trans (hs.mono hb.size)
  obtain ⟨W1, hW1⟩ : ∃ W', W' = (W.alloc (.cells #[.slice (p).fa (p).frs.length (p).fc, .slice (p).da (p).dfs.length (p).dc] 44)).alloc (.cells #[.bool false, .slice (some ⟨ga, 0, none⟩) 1 1, .bool true, .slice A l.length c] 70) := ⟨_, rfl⟩
  rw [← hW1] at ka ki kP h1 hl hf hb ⊢
  clear hW1 hs hgi hga p0 p1 zP
  have hits : ItsAt W1 W1.heap.size (some ⟨gi, 0, none⟩) [⟨false, [p], some ⟨ga, 0, none⟩, 1⟩, ⟨true, l, A, c⟩] := by
    refine ⟨ki.reads (size := 2) (n := 2) rfl, fun x hx => ?_⟩
    simp only [List.mem_cons, List.not_mem_nil, or_false] at hx
    rcases hx with rfl | rfl
    · exact ⟨pts_of_blk (l := [p]) ka (fun q hq => by obtain rfl := List.mem_singleton.1 hq; exact h1), by simp⟩
    · exact ⟨hl, hlm⟩
  have HCH := Lib.hid (choose_any (some ⟨gi, 0, none⟩) Af 2 cf [⟨false, [p], some ⟨ga, 0, none⟩, 1⟩, ⟨true, l, A, c⟩] first W1 hits (by simp) hf hfm)
  rw [show ([⟨false, [p], some ⟨ga, 0, none⟩, 1⟩, ⟨true, l, A, c⟩] : List ItM).map ItM.er = [⟨false, [p.er]⟩, ⟨true, l.map PtM.er⟩] from rfl] at HCH
  clear hits ki ka
  refine HCH.out.mono ?_
  rintro e w2 ⟨z, qs, rfl, _, hq0, hb2⟩
  replace kP := kP.all hb2
  have HEC := Lib.hid (ends_chosen (p := p.er) (l := l.map PtM.er) (first := first))
  obtain ⟨⟨o, n⟩, ho⟩ : ∃ r, chooseP [⟨false, [p.er]⟩, ⟨true, l.map PtM.er⟩] first = r := ⟨_, rfl⟩
  rw [ho] at hq0 HEC ⊢
  dsimp only at hq0 ⊢
  clear ho HCH
  by_cases hn : n = 0
  · subst hn
    obtain ⟨⟨r, ho, hrl, hlk, hnone⟩, hcp, hcl, hl8, hf12, hfs⟩ := HEC.out rfl
    dsimp only at ho
    subst ho
    obtain ⟨hev, hqe⟩ := hq0 rfl
    obtain ⟨q0, qr, rfl, hq1, hq2⟩ := split_er hqe
    have HCP := Lib.hid hcp
    have HCL : Hid (∀ q ∈ l, ckPart q.er = 0) := fun q hq => hcl q.er (List.mem_map_of_mem hq)
    have HNO : Hid (∀ q ∈ l, helpsB first (p.er :: r) q.er = false) := fun q hq => hnone q.er (List.mem_map_of_mem hq)
    have HLK : Hid (∀ (k : Nat) (q : PtM), qr[k]? = some q → ckPart q.er = 0 ∧ helpsB first (p.er :: (qr.take k).map PtM.er) q.er = true ∧ l.any (fun x => decide (x.er = q.er)) = true) := fun k q hk => by
      have hk2 : r[k]? = some q.er := by rw [← hq2, List.getElem?_map, hk]; rfl
      obtain ⟨a1, a2⟩ := hlk k q.er hk2
      refine ⟨hcl _ a1, ?_, ?_⟩
      · rw [List.map_take, hq2]; exact a2
      · obtain ⟨x, hx, hxe⟩ := List.mem_map.1 a1
        exact List.any_eq_true.2 ⟨x, hx, decide_eq_true hxe⟩
    have HQ2 := Lib.hid hq2
    have HFS := Lib.hid hfs
    have hql : qr.length ≤ 8 := by
      have : qr.length = r.length := by rw [← hq2, List.length_map]
      simp only [List.length_map] at hrl hl8
      omega
    have HQ1 := Lib.hid hq1
    clear hlk hnone hcp hcl hfs hqe hq2 hq0 HEC hq1 hrl hl8
    go_wp2_with fail
    refine (taken_any w2).mono ?_
    rintro e w3 ⟨rfl, hb3⟩
    replace hev := hev.all hb3
    replace kP := kP.all hb3
    clear hb3 hb2
    obtain ⟨gz, cz, hzv, hgz, hgzl⟩ := hev.hz.form (by simp)
    subst hzv
    have R := Reads.of_own hev.hz
    obtain ⟨b0, o0, ez, _, c0, c1⟩ := pt_get R (i := 0) (x := q0) rfl
    injection ez with ez
    injection ez with e1 e2
    subst e1 e2
    simp only [Nat.zero_mul, Nat.add_zero, Nat.zero_add] at c0 c1
    obtain ⟨nq, hnq⟩ : ∃ n, n = (q0 :: qr).length := ⟨_, rfl⟩
    have hnq0 : 0 < nq := by rw [hnq]; simp
    have qz : ((nq : Int) == 0) = false := by simp; omega
    have HNQ : Hid (nq = qr.length + 1) := by show _ = _; rw [hnq]; rfl
    rw [← hnq]
    have p0 := kP.cell 0
    have p1 := kP.cell 1
    have zP := kP.lt
    have HSM : Hid (Calls Try.prog 18 #[.agg #[.slice q0.fa q0.frs.length q0.fc, .slice q0.da q0.dfs.length q0.dc], .agg #[.slice p.fa p.frs.length p.fc, .slice p.da p.dfs.length p.dc]] w3.drew fun e w' => e = .returned (.bool true) ∧ Below w3.heap.size w3 w') := by
      have := same_any q0 p w3.drew ((hev.each q0 (by simp)).at_.all ((Below.refl _ _).drew)) ((h1.keep hev.hB hev.hb).all ((Below.refl _ _).drew))
      rw [decide_eq_true HQ1.out] at this
      exact this.mono fun _ _ ⟨he, hb⟩ => ⟨he, (Below.refl w3.heap.size w3).drew.trans hb⟩
    have HEV := Lib.hid hev
    have hni : (0 : Int) < (nq : Int) := by omega
    clear R hnq
    go_upto_region 4 with (fail)
    go_region_held3 (fun w' => w'.cell? ⟨gz, 0, none⟩ = some (.slice q0.fa q0.frs.length q0.fc) ∧ w'.cell? ⟨gz, 1, none⟩ = some (.slice q0.da q0.dfs.length q0.dc) ∧ w'.cell? ⟨gP, 0, none⟩ = some (.slice p.fa p.frs.length p.fc) ∧ w'.cell? ⟨gP, 1, none⟩ = some (.slice p.da p.dfs.length p.dc))
      (first | go_keep | exact ⟨(hb4.cell (p := ⟨gz, 0, none⟩) hgzl).trans c0, (hb4.cell (p := ⟨gz, 1, none⟩) hgzl).trans c1, (hb4.cell (p := ⟨gP, 0, none⟩) zP).trans p0, (hb4.cell (p := ⟨gP, 1, none⟩) zP).trans p1⟩)
      (first | (go_at_call 18; (with_reducible refine HSM.out.mono ?_); rintro e w4 ⟨rfl, hb4⟩))
    replace hev := HEV.out.all hb4
    replace kP := kP.all hb4
    clear c0 c1 p0 p1 zP qz HSM HEV hb4 hgzl
    go_upto_region 7 with (fail)
    have hz1 : (w4.alloc (.map #[] 0)).heap.size = w4.heap.size + 1 := by simp
    have hs := ((Below.refl w4.heap.size w4).alloc (Nat.le_refl _) (.map #[] 0)).alloc (by simp) (.cells #[.map (some w4.heap.size)] 72)
    have hsetW := (SetIs.new w4).alloc (.cells #[.map (some w4.heap.size)] 72)
    have kB1 := Blk.new' (w4.alloc (.map #[] 0)) 72 #[.map (some w4.heap.size)] (g := w4.heap.size + 1) (by simp)
    have hgW : W1.heap.size ≤ w4.heap.size := hev.hb
    replace hev := hev.all hs
    replace kP := kP.all hs
    obtain ⟨g1, hg1⟩ : ∃ g, g = w4.heap.size + 1 := ⟨_, rfl⟩
    obtain ⟨gW, hgWe⟩ : ∃ g, g = w4.heap.size := ⟨_, rfl⟩
    rw [← hg1] at kB1 ⊢
    rw [← hgWe] at kB1 hsetW hs hev kP hgW ⊢
    obtain ⟨W5, hW5⟩ : ∃ W', W' = (w4.alloc (.map #[] 0)).alloc (.cells #[.map (some gW)] 72) := ⟨_, rfl⟩
    rw [← hW5] at kB1 hsetW hev kP ⊢
    have hW5s : W5.heap.size = gW + 2 := by rw [hW5, hgWe]; simp
    clear hW5 hs hz1 hg1 hgWe
    go_wp2_with fail
    go_loopw [51] (fun i wr => ∃ k : Nat, k ≤ first.length ∧ i = .int .i64 k ∧ SetIs wr gW k (first.take k) ∧ W5.grownBy wr (some gW)) (fun i _ => first.length - (intOf i).toNat)
    case atStart => exact ⟨0, Nat.zero_le _, rfl, by simpa using hsetW, World.grownBy.refl _ _⟩
    case round =>
      obtain ⟨k, hk, rfl, hset, hg⟩ := hrel
      have hev2 := hsetW.ev hev hgW hg
      by_cases hlt : k < first.length
      · obtain ⟨s, hs⟩ : ∃ s, first[k]? = some s := ⟨_, List.getElem?_eq_getElem hlt⟩
        obtain ⟨b, off, hfe, bl, c0⟩ := nm_get (hf.below hev2.hB) hs
        have s0 := (hsetW.blk kB1 hg).cell 0
        have hs8 := HFS.out s (List.mem_of_getElem? hs)
        have HX : Hid (∀ x, x ∈ s :: first.take k ↔ x ∈ first.take (k + 1)) := fun x => by
          rw [List.take_add_one, hs]
          simp only [List.mem_cons, List.mem_append, Option.toList_some, List.not_mem_nil, or_false]
          exact Or.comm
        rw [hfe]
        have HFE := Lib.hid hfe
        clear hs hev2 hfe
        go_wp2_with (at_mapUpdate; refine wpList_setPut _ rfl _ _ _ rfl gW k _ hset rfl (by omega) s rfl rfl (by omega) ?_; intro w6 hs2 hg2)
        go_roundw
        case rel => exact ⟨k + 1, by omega, by go_num, hs2.ext HX.out, hg.trans hg2⟩
        case measure => simp [intOf]; omega
      · obtain rfl : k = first.length := by omega
        have kB1r := hsetW.blk kB1 hg
        have kPr := hsetW.blk kP hg
        have hset2 : SetIs wr gW 12 (wantS first []) := (hset.mono hf12).ext fun x => by rw [List.take_length]; simp [wantS]
        have hgs := hg.size
        clear hset hg kB1 kP hsetW hev
        go_upto_region 13 with (fail)
        have hs := ((Below.refl wr.heap.size wr).alloc (Nat.le_refl _) (.map #[] 0)).alloc (by simp) (.cells #[.map (some wr.heap.size)] 72)
        have hsetD := (SetIs.new wr).alloc (.cells #[.map (some wr.heap.size)] 72)
        have kB2 := Blk.new' (wr.alloc (.map #[] 0)) 72 #[.map (some wr.heap.size)] (g := wr.heap.size + 1) (by simp)
        have hgD : W1.heap.size ≤ wr.heap.size := hev2.hb
        have hneWD : gW ≠ wr.heap.size := by omega
        replace hev2 := hev2.all hs
        replace kPr := kPr.all hs
        replace kB1r := kB1r.all hs
        replace hset2 := hset2.all hs
        obtain ⟨g2, hg2⟩ : ∃ g, g = wr.heap.size + 1 := ⟨_, rfl⟩
        obtain ⟨gD, hgDe⟩ : ∃ g, g = wr.heap.size := ⟨_, rfl⟩
        rw [← hg2] at kB2 ⊢
        rw [← hgDe] at kB2 hsetD hs hev2 kPr kB1r hset2 hgD hneWD ⊢
        obtain ⟨W6, hW6⟩ : ∃ W', W' = (wr.alloc (.map #[] 0)).alloc (.cells #[.map (some gD)] 72) := ⟨_, rfl⟩
        rw [← hW6] at kB2 hsetD hev2 kPr kB1r hset2 ⊢
        have hEN : EnIs W6 g1 g2 gW gD 12 0 first [] := ⟨kB1r, kB2, hneWD, hset2, hsetD⟩
        clear hW6 hs hg2 hgDe kB1r kB2 hset2 hsetD hneWD hgs hW5s
        have p0 := kPr.cell 0
        have p1 := kPr.cell 1
        go_wp2_with fail
        refine (endsTake_any p g1 g2 gW gD 12 0 first [] W6 (h1.keep hev2.hB hev2.hb) HCP.out hEN (by omega) (by omega)).mono ?_
        rintro e w7 ⟨rfl, hEN7, htw⟩
        have hev7 := hEN.two_ev htw hev2 hgW hgD
        clear hEN hev2 htw kPr p0 p1
        rw [List.nil_append] at hEN7
        obtain rfl : nq = qr.length + 1 := HNQ.out
        obtain ⟨Az, cz', hzz, hcz, hcm⟩ := own_form hev7.hz
        injection hzz with hza _ hzz
        subst hza hzz
        have hcz2 : qr.length + 1 ≤ cz := hcz
        obtain ⟨zv, hzv⟩ : ∃ z, z = Value.slice (some ⟨gz, 0, none⟩) (q0 :: qr).length cz := ⟨_, rfl⟩
        rw [← hzv] at hev7
        have HZV := Lib.hid hzv
        clear hzv hcz hnq0 hni
        rcases Nat.eq_zero_or_pos qr.length with hq0 | hq0
        · have hq00 := List.eq_nil_of_length_eq_zero hq0
          have hEN9 : EnIs w7 g1 g2 gW gD (12 + 480) (0 + 60) first (p.er :: r) := by rw [← HQ2.out, hq00]; exact hEN7
          have hev9 := hev7
          obtain ⟨nW9, hnW9⟩ : ∃ n, n = 12 + 480 := ⟨_, rfl⟩
          obtain ⟨nD9, hnD9⟩ : ∃ n, n = 0 + 60 := ⟨_, rfl⟩
          rw [← hnW9, ← hnD9] at hEN9
          clear hev7 hEN7 hnW9 hnD9 hq00
          rw [hq0] at hcz2 ⊢
          rcases Decidable.em (cz = 1) with rfl | hc1
          all_goals
            go_wp2_with fail
            refine wp_loop_rounds 1 ?_
            rw [rounds_succ]
            (go_wp2_with fail; go_loopw [91] (fun i wx => ∃ k : Nat, k ≤ l.length ∧ i = .int .i64 k ∧ EnIs wx g1 g2 gW gD nW9 nD9 first (p.er :: r) ∧ EV W1 wx W1.heap.size zv (q0 :: qr)) (fun i _ => l.length - (intOf i).toNat); (case atStart => exact ⟨0, Nat.zero_le _, rfl, hEN9, hev9⟩); (case round => clear hEN9 hev9; obtain ⟨k, hk, rfl, hEN9, hev9⟩ := hrel; by_cases hlt : k < l.length; (focus (obtain ⟨q, hq⟩ : ∃ q, l[k]? = some q := ⟨_, List.getElem?_eq_getElem hlt⟩; have hqm := List.mem_of_getElem? hq; obtain ⟨b, off, hae, bl, d0, d1⟩ := pt_get (hl.row.below hev9.hB) hq; have hqA := (hl.each q hqm).keep hev9.hB hev9.hb; have hno := HNO.out q hqm; have hcq := HCL.out q hqm; rw [hae]; clear hq hqm hae; go_upto_region 26 with (fail); have kQ := Blk.new wr 44 #[.slice q.fa q.frs.length q.fc, .slice q.da q.dfs.length q.dc]; have hbx : Below wr.heap.size wr (wr.alloc (.cells #[.slice (q).fa (q).frs.length (q).fc, .slice (q).da (q).dfs.length (q).dc] 44)) := (by (repeat' (first | exact Below.refl _ _ | assumption | refine Below.setCell ?_ (by first | omega | exact Below.size (by assumption) | (simp; done) | (simp; omega)) _ | refine Below.alloc ?_ (by first | omega | exact Below.size (by assumption) | (simp; done) | (simp; omega)) _ | refine Below.drew ?_ | refine below_drewN ?_ _))); replace hEN9 := hEN9.all hbx; replace hev9 := hev9.all hbx; replace hqA := hqA.all hbx; obtain ⟨gQ, hgQ⟩ : ∃ g, g = wr.heap.size := ⟨_, rfl⟩; obtain ⟨W9, hW9⟩ : ∃ W, W = wr.alloc (.cells #[.slice (q).fa (q).frs.length (q).fc, .slice (q).da (q).dfs.length (q).dc] 44) := ⟨_, rfl⟩; rw [← hgQ] at kQ ⊢; rw [← hW9] at kQ hEN9 hev9 hqA ⊢; clear hW9 hgQ hbx d0 d1; have x0 := kQ.cell 0; have x1 := kQ.cell 1; have hHC := endsHelps_any q g1 g2 gW gD nW9 nD9 first (p.er :: r) W9 hqA hcq hEN9; rw [hno] at hHC; have HHC := Lib.hid hHC; clear hHC hno; go_wp2_with fail; refine HHC.out.mono ?_; rintro e w9 ⟨rfl, hb9⟩; clear x0 x1 HHC; go_wp2_with fail; go_roundw; (case rel => exact ⟨k + 1, by omega, by go_num, hEN9.all hb9, hev9.all hb9⟩); (case measure => simp [intOf]; omega))); (focus (obtain rfl : k = l.length := (by omega); go_wp2_with fail; go_ret; exact ⟨rfl, hb.trans (hev9.hB.mono hb.size)⟩))))
        · have hc1 : ¬ cz = 1 := by omega
          go_wp2_with fail
          go_loopw [68] (fun i wx => ∃ k : Nat, k ≤ qr.length ∧ i = .int .i64 k ∧ EnIs wx g1 g2 gW gD (492 + 480 * k) (60 + 60 * k) first (p.er :: (qr.take k).map PtM.er) ∧ EV W1 wx W1.heap.size zv (q0 :: qr)) (fun i _ => qr.length - (intOf i).toNat)
          case atStart => exact ⟨0, Nat.zero_le _, rfl, hEN7, hev7⟩
          case round =>
            clear hEN7 hev7
            obtain ⟨k, hk, rfl, hEN, hev⟩ := hrel
            by_cases hlt : k < qr.length
            · obtain ⟨q, hq⟩ : ∃ q, qr[k]? = some q := ⟨_, List.getElem?_eq_getElem hlt⟩
              have hqm : q ∈ q0 :: qr := List.mem_cons_of_mem _ (List.mem_of_getElem? hq)
              obtain ⟨hcq, hhe, han⟩ := HLK.out k q hq
              have hrow := hev.hz
              rw [HZV.out] at hrow
              obtain ⟨b0, o0, ez, _, c0, c1⟩ := pt_get (Reads.of_own hrow) (i := k + 1) (x := q) hq
              injection ez with ez
              injection ez with e1 e2
              subst e1 e2
              rw [show 0 + (k + 1) * 2 = 2 + k * 2 by omega] at c0 c1
              have hzl := (hrow.lt gz rfl).2
              have htk : (qr.take (k + 1)).map PtM.er = (qr.take k).map PtM.er ++ [q.er] := by rw [List.take_add_one, hq, List.map_append]; rfl
              have HTK := Lib.hid htk
              have HAN := Lib.hid han
              clear hq han htk hrow
              go_upto_region 20 with (fail)
              have kQ := Blk.new wr 44 #[.slice q.fa q.frs.length q.fc, .slice q.da q.dfs.length q.dc]
              have hbx : Below wr.heap.size wr (wr.alloc (.cells #[.slice (q).fa (q).frs.length (q).fc, .slice (q).da (q).dfs.length (q).dc] 44)) := by (repeat' (first | exact Below.refl _ _ | assumption | refine Below.setCell ?_ (by first | omega | exact Below.size (by assumption) | (simp; done) | (simp; omega)) _ | refine Below.alloc ?_ (by first | omega | exact Below.size (by assumption) | (simp; done) | (simp; omega)) _ | refine Below.drew ?_ | refine below_drewN ?_ _))
              replace hEN := hEN.all hbx
              replace hev := hev.all hbx
              obtain ⟨gQ, hgQ⟩ : ∃ g, g = wr.heap.size := ⟨_, rfl⟩
              obtain ⟨W9, hW9⟩ : ∃ W, W = wr.alloc (.cells #[.slice (q).fa (q).frs.length (q).fc, .slice (q).da (q).dfs.length (q).dc] 44) := ⟨_, rfl⟩
              rw [← hgQ] at kQ ⊢
              rw [← hW9] at kQ hEN hev ⊢
              clear hW9 hgQ hbx c0 c1 hzl
              have hHC := endsHelps_any q g1 g2 gW gD (492 + 480 * k) (60 + 60 * k) first (p.er :: (qr.take k).map PtM.er) W9 (hev.each q hqm).at_ hcq hEN
              rw [hhe] at hHC
              have HHC := Lib.hid hHC
              have x0 := kQ.cell 0
              have x1 := kQ.cell 1
              clear hHC hhe
              go_wp2_with fail
              refine HHC.out.mono ?_
              rintro e w9 ⟨rfl, hb9⟩
              replace hEN := hEN.all hb9
              replace hev := hev.all hb9
              replace kQ := kQ.all hb9
              clear hb9 x0 x1 HHC
              have x0 := kQ.cell 0
              have x1 := kQ.cell 1
              go_wp2_with fail
              refine (endsTake_any q g1 g2 gW gD (492 + 480 * k) (60 + 60 * k) first (p.er :: (qr.take k).map PtM.er) w9 (hev.each q hqm).at_ hcq hEN (by omega) (by omega)).mono ?_
              rintro e w10 ⟨rfl, hEN10, htw⟩
              replace hev := hEN.two_ev htw hev hgW hgD
              replace kQ := hEN.two_blk htw kQ
              clear hEN htw x0 x1
              have HHS := Lib.hid (hasFPte_any A c l (fun x => decide (x.er = q.er)) gQ w10 ((hl.row.below hev.hB).more hev.hb) hlm (fun x hx W' hW' => endsSame_any x q gQ W' ((hl.each x hx).keep (hev.hB.trans (hW'.mono hev.hb)) (Nat.le_trans hev.hb hW'.size)) ((hev.each q hqm).at_.all hW') (kQ.all hW')))
              go_wp2_with fail
              refine HHS.out.mono ?_
              rintro e w11 ⟨rfl, hb11⟩
              rw [HAN.out]
              have hEN11 : EnIs w11 g1 g2 gW gD (492 + 480 * (k + 1)) (60 + 60 * (k + 1)) first (p.er :: (qr.take (k + 1)).map PtM.er) := by
                have := hEN10.all hb11
                rw [HTK.out]
                rw [show 492 + 480 * k + 480 = 492 + 480 * (k + 1) by omega, show 60 + 60 * k + 60 = 60 + 60 * (k + 1) by omega] at this
                exact this
              replace hev := hev.all hb11
              clear hb11 hEN10 HHS
              go_wp2_with fail
              go_roundw
              case rel => exact ⟨k + 1, by omega, by go_num, hEN11, hev⟩
              case measure => simp [intOf]; omega
            · obtain rfl : k = qr.length := by omega
              have hEN9 : EnIs wr g1 g2 gW gD (492 + 480 * qr.length) (60 + 60 * qr.length) first (p.er :: r) := by rw [← HQ2.out]; rw [List.take_length] at hEN; exact hEN
              have hev9 := hev
              obtain ⟨nW9, hnW9⟩ : ∃ n, n = 492 + 480 * qr.length := ⟨_, rfl⟩
              obtain ⟨nD9, hnD9⟩ : ∃ n, n = 60 + 60 * qr.length := ⟨_, rfl⟩
              rw [← hnW9, ← hnD9] at hEN9
              clear hev hEN hnW9 hnD9
              (go_wp2_with fail; go_loopw [91] (fun i wx => ∃ k : Nat, k ≤ l.length ∧ i = .int .i64 k ∧ EnIs wx g1 g2 gW gD nW9 nD9 first (p.er :: r) ∧ EV W1 wx W1.heap.size zv (q0 :: qr)) (fun i _ => l.length - (intOf i).toNat); (case atStart => exact ⟨0, Nat.zero_le _, rfl, hEN9, hev9⟩); (case round => clear hEN9 hev9; obtain ⟨k, hk, rfl, hEN9, hev9⟩ := hrel; by_cases hlt : k < l.length; (focus (obtain ⟨q, hq⟩ : ∃ q, l[k]? = some q := ⟨_, List.getElem?_eq_getElem hlt⟩; have hqm := List.mem_of_getElem? hq; obtain ⟨b, off, hae, bl, d0, d1⟩ := pt_get (hl.row.below hev9.hB) hq; have hqA := (hl.each q hqm).keep hev9.hB hev9.hb; have hno := HNO.out q hqm; have hcq := HCL.out q hqm; rw [hae]; clear hq hqm hae; go_upto_region 26 with (fail); have kQ := Blk.new wr 44 #[.slice q.fa q.frs.length q.fc, .slice q.da q.dfs.length q.dc]; have hbx : Below wr.heap.size wr (wr.alloc (.cells #[.slice (q).fa (q).frs.length (q).fc, .slice (q).da (q).dfs.length (q).dc] 44)) := (by (repeat' (first | exact Below.refl _ _ | assumption | refine Below.setCell ?_ (by first | omega | exact Below.size (by assumption) | (simp; done) | (simp; omega)) _ | refine Below.alloc ?_ (by first | omega | exact Below.size (by assumption) | (simp; done) | (simp; omega)) _ | refine Below.drew ?_ | refine below_drewN ?_ _))); replace hEN9 := hEN9.all hbx; replace hev9 := hev9.all hbx; replace hqA := hqA.all hbx; obtain ⟨gQ, hgQ⟩ : ∃ g, g = wr.heap.size := ⟨_, rfl⟩; obtain ⟨W9, hW9⟩ : ∃ W, W = wr.alloc (.cells #[.slice (q).fa (q).frs.length (q).fc, .slice (q).da (q).dfs.length (q).dc] 44) := ⟨_, rfl⟩; rw [← hgQ] at kQ ⊢; rw [← hW9] at kQ hEN9 hev9 hqA ⊢; clear hW9 hgQ hbx d0 d1; have x0 := kQ.cell 0; have x1 := kQ.cell 1; have hHC := endsHelps_any q g1 g2 gW gD nW9 nD9 first (p.er :: r) W9 hqA hcq hEN9; rw [hno] at hHC; have HHC := Lib.hid hHC; clear hHC hno; go_wp2_with fail; refine HHC.out.mono ?_; rintro e w9 ⟨rfl, hb9⟩; clear x0 x1 HHC; go_wp2_with fail; go_roundw; (case rel => exact ⟨k + 1, by omega, by go_num, hEN9.all hb9, hev9.all hb9⟩); (case measure => simp [intOf]; omega))); (focus (obtain rfl : k = l.length := (by omega); go_wp2_with fail; go_ret; exact ⟨rfl, hb.trans (hev9.hB.mono hb.size)⟩))))
  · have hx0 : (n != 0) = true := by simpa using hn
    clear hn hq0 HEC
    go_wp2_with fail
    refine (taken_any w2).mono ?_
    rintro e w3 ⟨rfl, hb3⟩
    go_wp2_with fail
    refine (taken_any w3).mono ?_
    rintro e w4 ⟨rfl, hb4⟩
    go_wp2
    go_ret
    have hb02 := hb.trans (hb2.mono hb.size)
    exact ⟨rfl, (hb02.trans (hb3.mono hb02.size)).trans (hb4.mono (Nat.le_trans hb02.size hb3.size))⟩
end Go.Proofs.Ytbhjdinjoonngaa
