/- ropewalklaw.ArchivePlain: the call returns true. -/
import Derived.Test.YtbhjdinjoonngaaArcPl
import Derived.Test.YtbhjdinjoonngaaArcG
import Derived.Test.YtbhjdinjoonngaaArcT
import Derived.Deep.RegionHeld3
set_option linter.all false
namespace Go.Proofs.Ytbhjdinjoonngaa
open Go.RowKit

theorem Try.infoItms : (Try.prog.info? 70).map (fun i => (i.zero, i.size, i.bytes)) = some (some (.agg #[.bool false, .slice none 0 0]), 2, 32) := by kernel_rfl
theorem it_one (x : ItM) : ∀ u ∈ x.cells, u.oneCell' = true := by
  intro u hu
  simp only [ItM.cells, List.mem_cons, List.not_mem_nil, or_false] at hu
  rcases hu with rfl | rfl <;> rfl
/-- What archive.Choose says of parts that are no archive's. -/
theorem plain_chosen {l : List Prt} {first : List ByteArray} (h0 : (chooseP (l.map fun p => ⟨false, [p]⟩) first).2 = 0) : (chooseP (l.map fun p => ⟨false, [p]⟩) first).1 = l ∧ chooseE (l.map fun p => ⟨false, [p]⟩) first = 0 := by
  unfold chooseP at h0 ⊢
  by_cases hE : chooseE (l.map fun p => ⟨false, [p]⟩) first = 0
  · rw [if_neg (by simp [hE])]
    refine ⟨?_, hE⟩
    show chosenP _ _ = _
    unfold chosenP
    rw [chosen_plain first _ (fun x hx => by obtain ⟨p, _, rfl⟩ := List.mem_map.1 hx; rfl)]
    simp only [List.nil_append, List.flatMap_map]
    induction l with
    | nil => rfl
    | cons a r ih => rw [List.flatMap_cons]; simp
  · rw [if_pos hE] at h0
    exact absurd h0 hE
theorem chooseE_parts {l : List Prt} {first : List ByteArray} (h : chooseE (l.map fun p => ⟨false, [p]⟩) first = 0) : (∀ p ∈ l, ckPart p = 0) ∧ first.length ≤ 12 := by
  unfold chooseE at h
  by_cases hc : ckItems (l.map fun p => (⟨false, [p]⟩ : Itm)) = 0
  · rw [if_neg (by simp [hc])] at h
    refine ⟨fun p hp => ?_, ?_⟩
    · exact (ckItem_zero ((ckItems_zero hc).2 ⟨false, [p]⟩ (List.mem_map.2 ⟨p, hp, rfl⟩))).2.2 p (by simp)
    · by_cases h12 : 12 < first.length
      · rw [if_pos h12] at h; cases h
      · omega
  · rw [if_pos hc] at h; exact absurd h hc
theorem own_len (A : Option Addr) (n n' c c' : Nat) : (Value.slice A n c).ownBlock = (Value.slice A n' c').ownBlock := by cases A <;> rfl
/-- An archive that defines nothing that is wanted. -/
theorem plain_more {L more : List Prt} {first : List ByteArray} (h0 : (chooseP (L.map (fun p => (⟨false, [p]⟩ : Itm)) ++ [⟨true, more⟩]) first).2 = 0) (hn : ∀ p ∈ more, ∀ d ∈ p.dfs, d.name ∉ first ++ L.flatMap wantedP) : (chooseP (L.map (fun p => (⟨false, [p]⟩ : Itm)) ++ [⟨true, more⟩]) first).1 = L := by
  by_cases hE : chooseE (L.map (fun p => (⟨false, [p]⟩ : Itm)) ++ [⟨true, more⟩]) first = 0
  · rw [chooseP_ok hE]
    show chosenP _ _ = _
    rw [chosen_snoc]
    have h1 : chosenP (L.map fun p => (⟨false, [p]⟩ : Itm)) first = L := by
      unfold chosenP
      rw [chosen_plain first _ (fun x hx => by obtain ⟨p, _, rfl⟩ := List.mem_map.1 hx; rfl)]
      simp only [List.nil_append, List.flatMap_map]
      clear h0 hn hE
      induction L with
      | nil => rfl
      | cons a r ih => rw [List.flatMap_cons]; simp
    rw [h1]
    unfold itemStep
    rw [if_pos rfl]
    refine arch_none fun p hp => ?_
    unfold helpsB
    refine List.any_eq_false.2 fun d hd => ?_
    have := hn p hp d hd
    unfold helpD wantS
    rw [decide_eq_false this]
    simp
  · unfold chooseP at h0
    rw [if_pos hE] at h0
    exact absurd h0 hE

set_option maxRecDepth 100000 in
set_option maxHeartbeats 4000000 in
theorem archivePlain_any (A Am Af : Option Addr) (c cm cf : Nat) (l more : List PtM) (first : List ByteArray) (w : World) (hl : PtsAt w w.heap.size A l) (hlm : l.length ≤ 9223372036854775807) (hlc : l.length ≤ c) (hm : PtsAt w w.heap.size Am more) (hmm : more.length ≤ 9223372036854775807) (hf : Reads w w.heap.size 1 Af first.length (strsV first)) (hfm : first.length ≤ 9223372036854775807) :
    Calls Try.prog 8 #[.slice A l.length c, .slice Am more.length cm, .slice Af first.length cf] w fun e w' => e = .returned (.bool true) ∧ Below w.heap.size w w' := by
  obtain ⟨m, hmv⟩ : ∃ m, m = min l.length 11 := ⟨_, rfl⟩
  obtain ⟨L, hL⟩ : ∃ L, L = l.take m := ⟨_, rfl⟩
  have hLm : L.length = m := by rw [hL, List.length_take, hmv]; omega
  have hm11 : m ≤ 11 := by omega
  have hml : m ≤ l.length := by omega
  have hmc : m ≤ c := by omega
  have HLA : Hid (∀ p ∈ L, p.At w w.heap.size) := fun p hp => hl.each p (by rw [hL] at hp; exact List.mem_of_mem_take hp)
  have HLK : Hid (∀ (k : Nat) (p : PtM), l[k]? = some p → k < m → L[k]? = some p) := fun k p hp hk => by rw [hL, List.getElem?_take_of_lt hk]; exact hp
  have hmn : min (l.length : Int) 11 = (m : Int) := by omega
  have HLM := Lib.hid hLm
  clear hmv hL hLm
  go_enter Try.func8, Try.ntmps8
  go_upto_region 2 with (fail)
  go_wp2_with fail
  go_loopw [7, 26] (fun v i wr => ∃ (k : Nat) (its : List ItM), k ≤ m ∧ i = .int .i64 k ∧ IO w wr v (L.take k) its) (fun _ i _ => m - (intOf i).toNat)
  case atStart => exact ⟨0, [], Nat.zero_le _, rfl, ⟨World.ownsRow_nil _ _ _ _, fun x hx => absurd hx (by simp), rfl, Below.refl _ _⟩⟩
  case round =>
    obtain ⟨k, its, hk, rfl, hIO⟩ := hrel
    have hil := hIO.len
    rw [List.length_take, HLM.out, Nat.min_eq_left hk] at hil
    have hil11 : its.length ≤ 11 := by omega
    have HIL := Lib.hid hil
    clear hil
    obtain ⟨Ai, ci, rfl, hic, hix⟩ := own_form hIO.row
    by_cases hlt : k < m
    · obtain ⟨p, hp⟩ : ∃ p, l[k]? = some p := ⟨_, List.getElem?_eq_getElem (by omega)⟩
      have hpL := HLK.out k p hp hlt
      obtain ⟨b, off, rfl, bl, c0, c1⟩ := pt_get (hl.row.below hIO.hB) hp
      have HTK : Hid (L.take (k + 1) = L.take k ++ [p]) := by show _ = _; rw [List.take_add_one, hpL]; rfl
      clear hp hpL
      go_upto_region 5 with (fail)
      have kQ := Blk.new wr 44 #[.slice p.fa p.frs.length p.fc, .slice p.da p.dfs.length p.dc]
      have hbx : Below wr.heap.size wr (wr.alloc (.cells #[.slice (p).fa (p).frs.length (p).fc, .slice (p).da (p).dfs.length (p).dc] 44)) := by (repeat' (first | exact Below.refl _ _ | assumption | refine Below.setCell ?_ (by first | omega | exact Below.size (by assumption) | (simp; done) | (simp; omega)) _ | refine Below.alloc ?_ (by first | omega | exact Below.size (by assumption) | (simp; done) | (simp; omega)) _ | refine Below.drew ?_ | refine below_drewN ?_ _))
      replace hIO := hIO.all hbx
      obtain ⟨gQ, hgQ⟩ : ∃ g, g = wr.heap.size := ⟨_, rfl⟩
      obtain ⟨W5, hW5⟩ : ∃ W, W = wr.alloc (.cells #[.slice (p).fa (p).frs.length (p).fc, .slice (p).da (p).dfs.length (p).dc] 44) := ⟨_, rfl⟩
      rw [← hgQ] at kQ ⊢
      rw [← hW5] at kQ hIO ⊢
      clear hW5 hgQ hbx c0 c1
      have x0 := kQ.cell 0
      have x1 := kQ.cell 1
      obtain ⟨i0, hi, hiz, his, hib⟩ := info_parts Try.infoItms
      go_wp2_with (at_builtin
                   refine wpList_append_own _ rfl (.tmp 30) (.tmp 34) 71 rfl w.heap.size 70 i0 _ 2 32 Try.underlying71 hi hiz his hib rfl (by decide) _ _ _ rfl ((hIO.row.alloc _).alloc _) ⟨W5.heap.size + 1, 0, none⟩ 1 1 [.bool false, .slice (some ⟨W5.heap.size, 0, none⟩) 1 1] rfl rfl ?c1 ?c2 ?c3 ?c4 ?c5 ?_
                   case c1 => exact fun j u hu => cells_newg (by simp) j u hu
                   case c2 => exact it_one ⟨false, [p], some ⟨W5.heap.size, 0, none⟩, 1⟩
                   case c3 => unfold maxLen; omega
                   case c4 => omega
                   case c5 => have := hIO.hB.size; simp; omega
                   intro v' w6 hown6 hg6 _
                   have hst : Below W5.heap.size W5 ((W5.alloc (.cells #[.slice p.fa p.frs.length p.fc, .slice p.da p.dfs.length p.dc] 44)).alloc (.cells #[.bool false, .slice (some ⟨W5.heap.size, 0, none⟩) 1 1] 70)) := ((Below.refl _ _).alloc (Nat.le_refl _) _).alloc (by simp <;> omega) _
                   have hop := own_of_blk ((Blk.new W5 44 #[.slice p.fa p.frs.length p.fc, .slice p.da p.dfs.length p.dc]).alloc (.cells #[.bool false, .slice (some ⟨W5.heap.size, 0, none⟩) 1 1] 70)) (base := w.heap.size) (size := 2) (n := 1) hIO.hB.size rfl (by omega)
                   have hIO6 := (hIO.all hst).push (p := p) (x := ⟨false, [p], some ⟨W5.heap.size, 0, none⟩, 1⟩) rfl rfl hop hown6 hg6
                   rw [← HTK.out] at hIO6
                   clear hst hg6 hown6 hop)
      go_roundw
      case rel => exact ⟨k + 1, its ++ [⟨false, [p], some ⟨W5.heap.size, 0, none⟩, 1⟩], by omega, by go_num, hIO6⟩
      case measure => simp [intOf]; omega
    · obtain rfl : m = k := by omega
      rw [List.take_of_length_le (by rw [HLM.out]; exact Nat.le_refl _)] at hIO
      have hits : ItsAt wr wr.heap.size Ai its := ⟨Reads.of_own hIO.row, hIO.at_ HLA.out⟩
      have hfr := (hf.below hIO.hB).more hIO.hB.size
      have HCH := Lib.hid (choose_any Ai Af ci cf its first wr hits (by omega) hfr hfm)
      have hers : its.map ItM.er = (L.map PtM.er).map fun p => ⟨false, [p]⟩ := by rw [hIO.ers, List.map_map]; rfl
      rw [hers] at HCH
      have HERS := Lib.hid hers
      have HPC := Lib.hid (plain_chosen (l := L.map PtM.er) (first := first))
      clear hits hers
      go_wp2_with fail
      refine HCH.out.mono ?_
      rintro e w2 ⟨z, qs, rfl, _, hq0, hb2⟩
      obtain ⟨⟨o, n⟩, ho⟩ : ∃ r, chooseP ((L.map PtM.er).map fun p => ⟨false, [p]⟩) first = r := ⟨_, rfl⟩
      rw [ho] at hq0 HPC ⊢
      dsimp only at hq0 ⊢
      have HO := Lib.hid ho
      clear ho HCH
      have hw1 : w.heap.size ≤ wr.heap.size := hIO.hB.size
      by_cases hn : n = 0
      · subst hn
        obtain ⟨hev, hqe⟩ := hq0 rfl
        obtain ⟨hol, hce⟩ := HPC.out rfl
        dsimp only at hol
        rw [hol] at hqe
        obtain ⟨hcp, hf12⟩ := chooseE_parts hce
        have hqm : qs.length = m := by
          have := congrArg List.length hqe
          simp only [List.length_map] at this
          rw [this]; exact HLM.out
        have HQE := Lib.hid hqe
        have HCP : Hid (∀ q ∈ qs, ckPart q.er = 0) := fun q hq => hcp q.er (by rw [← hqe]; exact List.mem_map_of_mem hq)
        obtain ⟨Az, cz, rfl, hzc, _⟩ := own_form hev.hz
        have HQM := Lib.hid hqm
        have hIO2 := hIO.all hb2
        rw [hqm, HIL.out]
        clear hq0 HPC hqe hol hce hcp hIO hfr hb2 HO hqm
        go_wp2_with fail
        refine (taken_any w2).mono ?_
        rintro e w3 ⟨rfl, hb3⟩
        replace hev := hev.all hb3
        replace hIO2 := hIO2.all hb3
        have hbS : wr.heap.size ≤ w3.heap.size := hev.hb
        clear hb3
        have q1 : ((m : Int) != (m : Int)) = false := by simp
        have hfr := (hf.below hIO2.hB).more hIO2.hB.size
        go_wp2_with fail
        refine (cloneStrsC_any Af first.length cf (strsV first) w3 hfr (strs_one _) (by omega) hfm).mono ?_
        rintro e w4 ⟨v4, rfl, hs4, hb4⟩
        replace hev := hev.all hb4
        replace hIO2 := hIO2.all hb4
        obtain ⟨A4, c4, rfl, _, _⟩ := own_form hs4
        clear q1 hfr
        go_upto_region 13 with (fail)
        have kB := Blk.new w4 67 #[.slice A4 first.length c4]
        have hbx : Below w4.heap.size w4 (w4.alloc (.cells #[.slice A4 first.length c4] 67)) := by (repeat' (first | exact Below.refl _ _ | assumption | refine Below.setCell ?_ (by first | omega | exact Below.size (by assumption) | (simp; done) | (simp; omega)) _ | refine Below.alloc ?_ (by first | omega | exact Below.size (by assumption) | (simp; done) | (simp; omega)) _ | refine Below.drew ?_ | refine below_drewN ?_ _))
        have hgB0 : w3.heap.size ≤ w4.heap.size := hb4.size
        replace hev := hev.all hbx
        replace hIO2 := hIO2.all hbx
        replace hs4 := own_all hs4 hbx
        obtain ⟨gB, hgB⟩ : ∃ g, g = w4.heap.size := ⟨_, rfl⟩
        obtain ⟨W5, hW5⟩ : ∃ W, W = w4.alloc (.cells #[.slice A4 first.length c4] 67) := ⟨_, rfl⟩
        rw [← hgB] at kB hgB0 ⊢
        rw [← hW5] at kB hev hIO2 hs4 ⊢
        clear hW5 hgB hbx hb4
        have hw3 : w.heap.size ≤ w3.heap.size := Nat.le_trans hw1 hbS
        obtain ⟨i1, hi1, hi1z, hi1s, hi1b⟩ := info_parts Try.infoStrsC
        go_wp2_with fail
        go_loopw [59] (fun i wx => ∃ (k : Nat) (Lk : List ByteArray) (vk : Value), k ≤ m ∧ i = .int .i64 k ∧ Hid (Lk = first ++ ((qs.take k).map PtM.er).flatMap wantedP) ∧ Lk.length ≤ 12 + 480 * k ∧ Blk wx gB 67 #[vk] ∧ wx.ownsRow w3.heap.size 9 1 vk Lk.length (strsV Lk) ∧ EV wr wx wr.heap.size (.slice Az qs.length cz) qs ∧ IO w wx (.slice Ai its.length ci) L its) (fun i _ => m - (intOf i).toNat)
        case atStart => exact ⟨0, first, .slice A4 first.length c4, Nat.zero_le _, rfl, Lib.hid (by simp), by omega, kB, hs4, hev, hIO2⟩
        case round =>
          clear kB hs4 hev hIO2
          obtain ⟨k, Lk, vk, hk, rfl, hLk, hLkl, kB, hs4, hev, hIO2⟩ := hrel
          obtain ⟨As, cs, rfl, hsc, _⟩ := own_form hs4
          by_cases hlt : k < m
          · obtain ⟨q, hq⟩ : ∃ q, qs[k]? = some q := ⟨_, List.getElem?_eq_getElem (by have := HQM.out; omega)⟩
            obtain ⟨y, hy⟩ : ∃ y, l[k]? = some y := ⟨_, List.getElem?_eq_getElem (by omega)⟩
            have hyL := HLK.out k y hy hlt
            have hqm := List.mem_of_getElem? hq
            have hqy : q.er = y.er := by
              have := congrArg (fun m : List Prt => m[k]?) HQE.out
              simp only [List.getElem?_map, hq, hyL, Option.map_some, Option.some.injEq] at this
              exact this
            have hcq := HCP.out q hqm
            have hyA := hl.each y (List.mem_of_getElem? hy)
            obtain ⟨b1, o1, hza, zb1, c0, c1⟩ := pt_get (Reads.of_own hev.hz) hq
            obtain ⟨b2, o2, hla, zb2, d0, d1⟩ := pt_get (hl.row.below hIO2.hB) hy
            have zb3 : b2 < wr.heap.size := Nat.lt_of_lt_of_le zb2 hIO2.hB.size
            have HTK : Hid (((qs.take (k + 1)).map PtM.er).flatMap wantedP = ((qs.take k).map PtM.er).flatMap wantedP ++ wantedP q.er) := by show _ = _; rw [List.take_add_one, hq, List.map_append, List.flatMap_append]; simp
            rw [hza, hla]
            have HZA := Lib.hid hza
            have HLA2 := Lib.hid hla
            have hkl : k < l.length := by omega
            have hki : (k : Int) < (l.length : Int) := by omega
            clear hq hy hyL hza hla
            go_upto_region 16 with (fail)
            have kQ := Blk.new wr 44 #[.slice q.fa q.frs.length q.fc, .slice q.da q.dfs.length q.dc]
            have hbx : Below wr.heap.size wr (wr.alloc (.cells #[.slice (q).fa (q).frs.length (q).fc, .slice (q).da (q).dfs.length (q).dc] 44)) := by (repeat' (first | exact Below.refl _ _ | assumption | refine Below.setCell ?_ (by first | omega | exact Below.size (by assumption) | (simp; done) | (simp; omega)) _ | refine Below.alloc ?_ (by first | omega | exact Below.size (by assumption) | (simp; done) | (simp; omega)) _ | refine Below.drew ?_ | refine below_drewN ?_ _))
            replace kB := kB.all hbx
            replace hs4 := own_all hs4 hbx
            replace hev := hev.all hbx
            replace hIO2 := hIO2.all hbx
            replace d0 := (hbx.cell (p := ⟨b2, o2 + k * 2, none⟩) zb3).trans d0
            replace d1 := (hbx.cell (p := ⟨b2, o2 + k * 2 + 1, none⟩) zb3).trans d1
            have hbz := hbx.size
            obtain ⟨gQ, hgQ⟩ : ∃ g, g = wr.heap.size := ⟨_, rfl⟩
            obtain ⟨W6, hW6⟩ : ∃ W, W = wr.alloc (.cells #[.slice (q).fa (q).frs.length (q).fc, .slice (q).da (q).dfs.length (q).dc] 44) := ⟨_, rfl⟩
            rw [← hgQ] at kQ zb3 hbz ⊢
            rw [← hW6] at kQ kB hs4 hev hIO2 d0 d1 hbz ⊢
            clear hW6 hgQ hbx c0 c1 zb1
            have x0 := kQ.cell 0
            have x1 := kQ.cell 1
            have zQ := kQ.lt
            have zb4 : b2 < W6.heap.size := Nat.lt_of_lt_of_le zb3 hbz
            have HSM : Hid (Calls Try.prog 18 #[.agg #[.slice q.fa q.frs.length q.fc, .slice q.da q.dfs.length q.dc], .agg #[.slice y.fa y.frs.length y.fc, .slice y.da y.dfs.length y.dc]] W6.drew fun e w' => e = .returned (.bool true) ∧ Below W6.heap.size W6 w') := by
              have := same_any q y W6.drew ((hev.each q hqm).at_.all ((Below.refl _ _).drew)) ((hyA.keep hIO2.hB hIO2.hB.size).all ((Below.refl _ _).drew))
              rw [decide_eq_true hqy] at this
              exact this.mono fun _ _ ⟨he, hb⟩ => ⟨he, (Below.refl W6.heap.size W6).drew.trans hb⟩
            have HEV := Lib.hid hev
            have HIO := Lib.hid hIO2
            have HS4 := Lib.hid hs4
            have HKB := Lib.hid kB
            clear hev hIO2 hs4 kB
            go_region_held3 (fun w' => w'.cell? ⟨gQ, 0, none⟩ = some (.slice q.fa q.frs.length q.fc) ∧ w'.cell? ⟨gQ, 1, none⟩ = some (.slice q.da q.dfs.length q.dc) ∧ w'.cell? ⟨b2, o2 + k * 2, none⟩ = some (.slice y.fa y.frs.length y.fc) ∧ w'.cell? ⟨b2, o2 + k * 2 + 1, none⟩ = some (.slice y.da y.dfs.length y.dc))
              (first | go_keep | exact ⟨(hb4.cell (p := ⟨gQ, 0, none⟩) zQ).trans x0, (hb4.cell (p := ⟨gQ, 1, none⟩) zQ).trans x1, (hb4.cell (p := ⟨b2, o2 + k * 2, none⟩) zb4).trans d0, (hb4.cell (p := ⟨b2, o2 + k * 2 + 1, none⟩) zb4).trans d1⟩)
              (first | (go_at_call 18; (with_reducible refine HSM.out.mono ?_); rintro e w7 ⟨rfl, hb4⟩))
            have hev := HEV.out.all hb4
            have hIO2 := HIO.out.all hb4
            have hs4 := own_all HS4.out hb4
            have kB := HKB.out.all hb4
            replace kQ := kQ.all hb4
            have x0 := kQ.cell 0
            have x1 := kQ.cell 1
            clear d0 d1 HSM HEV HIO HS4 HKB hb4 zb4 zQ
            go_wp2_with fail
            refine (wanted_any q w7 (hev.each q hqm).at_).mono ?_
            rintro e w8 ⟨v8, rfl, _, hv8, hb8⟩
            have hF := hv8 hcq
            have hwl := wanted_few hcq
            rw [hcq]
            have hB8 : w3.heap.size ≤ w7.heap.size := Nat.le_trans hgB0 (Nat.le_of_lt kB.lt)
            replace hF := hF.mono hB8
            replace hev := hev.all hb8
            replace hIO2 := hIO2.all hb8
            replace hs4 := own_all hs4 hb8
            replace kB := kB.all hb8
            obtain ⟨U, hU⟩ : ∃ U, U = wantedP q.er := ⟨_, rfl⟩
            rw [← hU] at hF hwl HTK
            obtain ⟨A8, c8, rfl, _, _⟩ := own_form hF
            have b0 := kB.cell 0
            have hLe : Hid (first ++ ((qs.take (k + 1)).map PtM.er).flatMap wantedP = Lk ++ U) := by show _ = _; rw [HTK.out, hLk.out, List.append_assoc]
            clear hv8 hU x0 x1 kQ hcq hqy HTK hLk
            go_wp2_with (at_builtin
                         refine wpList_append_any _ rfl (.tmp 78) (.tmp 79) 67 rfl w3.heap.size 9 i1 (.string ⟨#[]⟩) 1 16 Try.underlying67 hi1 hi1z hi1s hi1b rfl (by decide) _ _ _ rfl hs4 _ A8 U.length c8 (strsV U) rfl (Reads.of_own hF) (strs_one _) ?c2 ?c3 ?c4 ?_
                         case c2 => unfold maxLen; omega
                         case c3 => omega
                         case c4 => exact Nat.le_trans hB8 hb8.size
                         intro v9 w9 hown9 hg9 _
                         replace hown9 : w9.ownsRow w3.heap.size 9 1 v9 (Lk ++ U).length (strsV (Lk ++ U)) := by rw [strsV_append, List.length_append]; exact hown9
                         have hLUl : (Lk ++ U).length ≤ 12 + 480 * (k + 1) := by rw [List.length_append]; omega
                         obtain ⟨LU, hLU⟩ : ∃ M, M = Lk ++ U := ⟨_, rfl⟩
                         rw [← hLU] at hown9 hLUl
                         replace hLU := Lib.hid hLU
                         obtain ⟨A9, c9, rfl, _, _⟩ := own_form hown9
                         have kB9 := kB.grown hg9 (own_blk_ne hs4 kB (by decide)).symm
                         have hev9 := hev.srow hs4 hbS hg9 (by decide) (by decide) (by decide) (by decide) (by decide)
                         have hIO9 := hIO2.srow hs4 hw3 hg9 (by decide) (by decide)
                         have z9 := kB9.lt
                         have hown9s := own_setCell hown9 (p := ⟨gB, 0, none⟩) (own_blk_ne hown9 kB9 (by decide)) (.slice A9 LU.length c9)
                         have hev9s := hev9.set_ (j := 0) kB9 (Nat.le_trans hbS hgB0) (by decide) (by decide) (by decide) (by decide) (by decide) (.slice A9 LU.length c9)
                         have hIO9s := hIO9.set_ (j := 0) kB9 (Nat.le_trans hw3 hgB0) (by decide) (by decide) (.slice A9 LU.length c9)
                         have kB9s := kB9.set_ 0 (.slice A9 LU.length c9)
                         have f9 := kB9.frozen 0
                         have b9 := kB9.cell 0
                         clear hg9 hs4 kB hev hIO2 hF b0 hown9 hev9 hIO9 kB9)
            go_roundw
            case rel => exact ⟨k + 1, LU, .slice A9 LU.length c9, by omega, by go_num, Lib.hid (hLU.out.trans hLe.out.symm), hLUl, kB9s, hown9s, HZA.out ▸ hev9s, hIO9s⟩
            case measure => simp [intOf]; omega
          · obtain rfl : m = k := by omega
            have hwant : Hid (Lk = first ++ (L.map PtM.er).flatMap wantedP) := by
              show _ = _
              rw [hLk.out, ← HQE.out, List.take_of_length_le (by rw [HQM.out]; exact Nat.le_refl _)]
            have hLr : Reads wr wr.heap.size 1 As Lk.length (strsV Lk) := Reads.of_own hs4
            have hLm : Lk.length ≤ 9223372036854775807 := by omega
            have HEV := Lib.hid hev
            have HIO := Lib.hid hIO2
            have hmr := (hm.row.below hIO2.hB).more hIO2.hB.size
            have HME : Hid (∀ p ∈ more, p.At wr wr.heap.size) := fun p hp => (hm.each p hp).keep hIO2.hB hIO2.hB.size
            clear hev hIO2 hs4 hLk
            go_wp2_with fail
            go_loopw [84] (fun i wx => ∃ k : Nat, k ≤ more.length ∧ i = .int .i64 k ∧ Hid (∀ p ∈ more.take k, ∀ d ∈ p.dfs, d.name ∉ Lk) ∧ Below wr.heap.size wr wx) (fun i _ => more.length - (intOf i).toNat)
            case atStart => exact ⟨0, Nat.zero_le _, rfl, Lib.hid (fun p hp => absurd hp (by simp)), Below.refl _ _⟩
            case round =>
              obtain ⟨k, hk, rfl, hno, hb⟩ := hrel
              by_cases hlt : k < more.length
              · obtain ⟨p, hp⟩ : ∃ p, more[k]? = some p := ⟨_, List.getElem?_eq_getElem hlt⟩
                have hP := (HME.out p (List.mem_of_getElem? hp)).keep hb hb.size
                obtain ⟨b, off, rfl, bl, c0, c1⟩ := pt_get (hmr.below hb) hp
                have HTK : Hid ((∀ d ∈ p.dfs, d.name ∉ Lk) → ∀ p ∈ more.take (k + 1), ∀ d ∈ p.dfs, d.name ∉ Lk) := fun h q hq => by
                  rw [List.take_add_one, hp] at hq
                  rcases List.mem_append.1 hq with hq | hq
                  · exact hno.out q hq
                  · obtain rfl : q = p := by simpa using hq
                    exact h
                have hbx : Below wr.heap.size wr (wr.alloc (.cells #[.slice (p).fa (p).frs.length (p).fc, .slice (p).da (p).dfs.length (p).dc] 44)) := by (repeat' (first | exact Below.refl _ _ | assumption | refine Below.setCell ?_ (by first | omega | exact Below.size (by assumption) | (simp; done) | (simp; omega)) _ | refine Below.alloc ?_ (by first | omega | exact Below.size (by assumption) | (simp; done) | (simp; omega)) _ | refine Below.drew ?_ | refine below_drewN ?_ _))
                have HC := Lib.hid (hasFDfp_any p.da p.dc p.dfs (fun d => decide (d.name ∈ Lk)) gB (wr.alloc (.cells #[.slice (p).fa (p).frs.length (p).fc, .slice (p).da (p).dfs.length (p).dc] 44)) ((hP.df.below hbx).more hbx.size) hP.dm (fun x _ W hW => plain1_any x As cs Lk gB W (((kB.all hb).all hbx).all hW) ((((hLr.below hb).more hb.size).below hbx).more hbx.size |>.below hW |>.more hW.size) hLm))
                have hB1 := hb.trans (hbx.mono hb.size)
                rcases ha : p.dfs.any (fun d => decide (d.name ∈ Lk)) with _ | _
                · have hHTK := Lib.hid (HTK.out fun d hd hm => by have := List.any_eq_false.1 ha d hd; simp [hm] at this)
                  rw [ha] at HC
                  clear hp hP hbx ha HTK
                  go_wp2_with fail
                  refine HC.out.mono ?_
                  rintro e w6 ⟨rfl, hb6⟩
                  go_wp2_with fail
                  go_roundw
                  case rel => exact ⟨k + 1, by omega, by go_num, hHTK, hB1.trans (hb6.mono hB1.size)⟩
                  case measure => simp [intOf]; omega
                · rw [ha] at HC
                  clear hp hP hbx ha HTK
                  go_wp2_with fail
                  refine HC.out.mono ?_
                  rintro e w6 ⟨rfl, hb6⟩
                  go_wp2
                  go_ret
                  have hW := HIO.out.hB
                  have hb8 := hB1.trans (hb6.mono hB1.size)
                  exact ⟨rfl, hW.trans (hb8.mono hW.size)⟩
              · obtain rfl : k = more.length := by omega
                rw [List.take_length] at hno
                have hev := HEV.out.all hb
                have hIO := HIO.out.all hb
                have HNO : Hid (∀ p ∈ more.map PtM.er, ∀ d ∈ p.dfs, d.name ∉ first ++ (L.map PtM.er).flatMap wantedP) := fun p hp d hd => by
                  obtain ⟨q, hq, rfl⟩ := List.mem_map.1 hp
                  rw [← hwant.out]
                  exact hno.out q hq d hd
                clear HEV HIO hno hwant kB hLr hmr
                obtain ⟨i0, hi, hiz, his, hib⟩ := info_parts Try.infoItms
                have hrow := hIO.row
                rw [HIL.out] at hrow
                go_wp2_with (at_builtin
                             refine wpList_append_own _ rfl (.tmp 94) (.tmp 97) 71 rfl w.heap.size 70 i0 _ 2 32 Try.underlying71 hi hiz his hib rfl (by decide) _ _ _ rfl (hrow.alloc _) ⟨wr.heap.size, 0, none⟩ 1 1 [.bool true, .slice Am more.length cm] rfl rfl ?c1 ?c2 ?c3 ?c4 ?c5 ?_
                             case c1 => exact fun j u hu => cells_newg rfl j u hu
                             case c2 => exact it_one ⟨true, more, Am, cm⟩
                             case c3 => unfold maxLen; omega
                             case c4 => omega
                             case c5 => have := hIO.hB.size; simp; omega
                             intro v6 w6 hown6 hg6 _
                             obtain ⟨A6, c6, rfl, hc6, _⟩ := own_form hown6
                             have hst : Below wr.heap.size wr (wr.alloc (.cells #[.bool true, .slice Am more.length cm] 70)) := (Below.refl _ _).alloc (Nat.le_refl _) _
                             have hg6 : (wr.alloc (.cells #[.bool true, .slice Am more.length cm] 70)).grownBy w6 (Value.slice Ai m ci).ownBlock := hg6
                             rw [own_len Ai m its.length ci ci] at hg6
                             have hown6' : w6.ownsRow w.heap.size 70 2 (.slice A6 (its.length + 1) c6) (its.length + 1) (itsV its ++ ItM.cells ⟨true, more, Am, cm⟩) := by rw [HIL.out]; exact hown6
                             obtain ⟨hits, hB6⟩ := (hIO.all hst).more HLA.out hm hmm hown6' hg6
                             have hev6 := hev.all hst
                             have hz6 := own_kept hev6.hz hg6 (own_row_ne hev6.hz (hIO.all hst).row (show 44 ≠ 70 by decide))
                             have hq6 : Hid (∀ q ∈ qs, q.Own w6 _) := fun q hq => (hev6.each q hq).row (hIO.all hst).row hg6 (by decide) (by decide) (by decide) (by decide)
                             clear hst hown6' hg6 hev6 hown6 hrow hev hIO)
                have hfr := (hf.below hB6).more hB6.size
                have HCH := Lib.hid (choose_any A6 Af c6 cf (its ++ [⟨true, more, Am, cm⟩]) first w6 hits (by simp; omega) hfr hfm)
                rw [List.map_append, HERS.out] at HCH
                have hle : (its ++ [(⟨true, more, Am, cm⟩ : ItM)]).length = m + 1 := by rw [List.length_append, HIL.out]; rfl
                rw [hle] at HCH
                have HPM : Hid ((chooseP ((L.map PtM.er).map (fun p => (⟨false, [p]⟩ : Itm)) ++ List.map ItM.er [⟨true, more, Am, cm⟩]) first).2 = 0 → (chooseP ((L.map PtM.er).map (fun p => (⟨false, [p]⟩ : Itm)) ++ List.map ItM.er [⟨true, more, Am, cm⟩]) first).1 = L.map PtM.er) := fun h => plain_more (more := more.map PtM.er) h HNO.out
                clear hle hits hfr HNO
                refine HCH.out.mono ?_
                rintro e w7 ⟨z, qs2, rfl, _, hq0, hb7⟩
                obtain ⟨⟨o2, n2⟩, ho2⟩ : ∃ r, chooseP ((L.map PtM.er).map (fun p => (⟨false, [p]⟩ : Itm)) ++ List.map ItM.er [⟨true, more, Am, cm⟩]) first = r := ⟨_, rfl⟩
                rw [ho2] at hq0 HPM ⊢
                dsimp only at hq0 ⊢
                clear ho2 HCH
                have hB7 : Below w.heap.size w w7 := hB6.trans (hb7.mono hB6.size)
                by_cases hn2 : n2 = 0
                · subst hn2
                  obtain ⟨hev2, hqe2⟩ := hq0 rfl
                  have ho2 := HPM.out rfl
                  dsimp only at ho2 hqe2
                  rw [ho2] at hqe2
                  have hz7 := own_all hz6 hb7
                  obtain ⟨A7, c7, rfl, hc7, _⟩ := own_form hev2.hz
                  have hql : qs2.length = qs.length := by
                    have := congrArg List.length (hqe2.trans HQE.out.symm)
                    simpa using this
                  have HE := Lib.hid (equalParts_any A7 Az c7 cz qs2 qs w7 ⟨Reads.of_own hev2.hz, fun q hq => (hev2.each q hq).at_⟩ ⟨Reads.of_own hz7, fun q hq => ((hq6.out q hq).all hb7).at_⟩ (by rw [hql, HQM.out]; omega) (by rw [HQM.out]; omega))
                  rw [decide_eq_true (hqe2.trans HQE.out.symm), hql, HQM.out] at HE
                  rw [hql, HQM.out]
                  clear hql ho2 hqe2 hev2 hq0 hz7 hc7
                  go_wp2_with fail
                  refine HE.out.mono ?_
                  rintro e w8 ⟨rfl, hb8⟩
                  go_wp2
                  go_ret
                  exact ⟨rfl, hB7.trans (hb8.mono hB7.size)⟩
                · have hx0 : (n2 != 0) = true := by simpa using hn2
                  clear hn2 hq0
                  go_wp2_with fail
                  go_ret
                  exact ⟨rfl, hB7⟩
      · have hx0 : (n != 0) = true := by simpa using hn
        have hB := hIO.hB.trans (hb2.mono hIO.hB.size)
        clear hn hq0 HPC
        go_wp2_with fail
        refine (taken_any w2).mono ?_
        rintro e w3 ⟨rfl, hb3⟩
        go_wp2_with fail
        refine (taken_any w3).mono ?_
        rintro e w4 ⟨rfl, hb4⟩
        go_wp2
        go_ret
        exact ⟨rfl, (hB.trans (hb3.mono hB.size)).trans (hb4.mono (Nat.le_trans hB.size hb3.size))⟩
end Go.Proofs.Ytbhjdinjoonngaa
