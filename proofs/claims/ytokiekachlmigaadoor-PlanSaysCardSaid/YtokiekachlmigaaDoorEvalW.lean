/- plan.Eval: what it computes. -/
import Derived.Test.YtokiekachlmigaaDoorEvalX
import Derived.Test.YtokiekachlmigaaDoorPlB
import Derived.Test.YtokiekachlmigaaDoorSplicedW
set_option linter.all false
namespace Go.Proofs.YtokiekachlmigaaDoor
open Go.RowKit

def EvalIs (w : World) (r : List Prt × Int) (e : Ending) (w' : World) : Prop :=
  ∃ (z : Value) (qs : List PtM), e = .returned (.tuple #[z, .int .i64 r.2]) ∧ (r.2 ≠ 0 → z = .slice none 0 0) ∧ (r.2 = 0 → w'.ownsRow w.heap.size 25 2 z qs.length (ptsV qs) ∧ (∀ q ∈ qs, q.Own w' w.heap.size) ∧ qs.map PtM.er = r.1) ∧ Below w.heap.size w w'

set_option maxRecDepth 100000 in
set_option maxHeartbeats 20000000 in
theorem eval_any (A A' : Option Addr) (c c' : Nat) (l : List Nd) (ps : List PtM) (w : World) (h : Reads w w.heap.size 3 A l.length (ndCells l)) (hm : l.length ≤ 9223372036854775807) (hp : PtsAt w w.heap.size A' ps) (hpm : ps.length ≤ 9223372036854775807) :
    Calls Tryd.prog 40 #[.slice A l.length c, .slice A' ps.length c'] w (EvalIs w (evalRes l (ps.map PtM.er))) := by
  have hplen : ((ps.map PtM.er).length : Int) = ps.length := by simp
  have HE := Lib.hid hp.each
  have hrow := hp.row
  by_cases hc : ckPlan l ps.length = 0
  · have hz := ckPlan_zero hc
    have h23 : l.length ≤ 23 := hz.2.2.1
    have h12 : ps.length ≤ 12 := by have := hz.2.1; omega
    have HF := Lib.hid hz.2.2.2.2.1
    have HC : Hid (ckPlan l ((ps.map PtM.er).length : Nat) = 0) := by show ckPlan l ((ps.map PtM.er).length : Nat) = 0; rw [List.length_map]; exact hc
    have HK := planCheck_any A c l ps.length w h hm
    rw [hc] at HK
    replace HK := Lib.hid HK
    have hhp : Hid (PtsAt w w.heap.size A' ps) := hp
    clear hc hz hplen hp
    go_enter Tryd.func40, Tryd.ntmps40
    go_wp2_with fail
    refine HK.out.mono ?_
    rintro e w1 ⟨rfl, hb1⟩
    go_wp2_with fail
    go_loopw [24] (fun i wr => ∃ k : Nat, k ≤ ps.length ∧ i = .int .i64 k ∧ Hid (firstBad ((ps.map PtM.er).map ckPart) = firstBad (((ps.map PtM.er).map ckPart).drop k)) ∧ Below w.heap.size w wr) (fun i _ => ps.length - (intOf i).toNat)
    case atStart => exact ⟨0, Nat.zero_le _, rfl, Lib.hid rfl, hb1⟩
    case round =>
      clear hb1
      obtain ⟨k, hk, rfl, hfb, hb⟩ := hrel
      by_cases hlt : k < ps.length
      · obtain ⟨p, hpk⟩ : ∃ p, ps[k]? = some p := ⟨_, List.getElem?_eq_getElem hlt⟩
        obtain ⟨b, off, rfl, bl, c0, c1⟩ := pt_get (hrow.below hb) hpk
        have hpA := (HE.out p (List.mem_of_getElem? hpk)).keep hb hb.size
        have hck : ((ps.map PtM.er).map ckPart)[k]? = some (ckPart p.er) := by rw [List.getElem?_map, List.getElem?_map, hpk]; rfl
        have hs0 : Below wr.heap.size wr (wr.alloc (.cells #[.slice (p).fa (p).frs.length (p).fc, .slice (p).da (p).dfs.length (p).dc] 25)) := by (repeat' (first | exact Below.refl _ _ | assumption | refine Below.setCell ?_ (by first | omega | exact Below.size (by assumption) | (simp; done) | (simp; omega)) _ | refine Below.alloc ?_ (by first | omega | exact Below.size (by assumption) | (simp; done) | (simp; omega)) _ | refine Below.drew ?_ | refine below_drewN ?_ _))
        clear hpk
        go_wp2_with fail
        refine (check_any p _ (hpA.all hs0)).mono ?_
        rintro e w2 ⟨rfl, hb2⟩
        have hb3 := hb.trans ((hs0.trans (hb2.mono hs0.size)).mono hb.size)
        clear c0 c1 hb2 hs0
        obtain ⟨n, hn⟩ : ∃ n, ckPart p.er = n := ⟨_, rfl⟩
        rw [hn] at hck ⊢
        clear hn
        by_cases hn0 : n = 0
        · subst hn0
          have hfb2 : Hid (firstBad ((ps.map PtM.er).map ckPart) = firstBad (((ps.map PtM.er).map ckPart).drop (k + 1))) := hfb.out.trans (firstBad_next hck)
          clear hck
          go_wp2
          go_roundw
          case rel => exact ⟨k + 1, by omega, by go_num, hfb2, hb3⟩
          case measure => simp [intOf]; omega
        · have hE := hfb.out.trans (firstBad_drop hck hn0)
          have HR := Lib.hid (evalRes_part (l := l) HC.out (by rw [hE]; exact hn0))
          rw [hE] at HR
          have t1 : (n != 0) = true := by simpa using hn0
          replace hE := Lib.hid hE
          have HN := Lib.hid hn0
          clear hck hn0
          go_wp2
          go_ret2
          exact ⟨_, [], by rw [HR.out]; rfl, fun _ => rfl, fun h0 => absurd (by rw [HR.out] at h0; exact h0) HN.out, hb3⟩
      · obtain rfl : k = ps.length := by omega
        have hE : firstBad ((ps.map PtM.er).map ckPart) = 0 := by
          rw [hfb.out]; exact firstBad_end (by simp)
        have HR := Lib.hid (evalRes_go (l := l) HC.out hE)
        have HOK := Lib.hid (firstBad_parts.1 hE)
        clear hfb hE
        go_wp2_with fail
        have hEV : EV w wr w.heap.size (.slice none 0 0) [] := ⟨World.ownsRow_nil _ _ _ _, fun q hq => absurd hq (by simp), hb, hb.size⟩
        clear hb
        go_loopw [10, 36] (fun z i wr => ∃ (k : Nat) (qs : List PtM), k ≤ l.length ∧ i = .int .i64 k ∧ Hid (qs.length = k) ∧ Hid (evalRes l (ps.map PtM.er) = evalUp (ps.map PtM.er) (qs.map PtM.er) (l.drop k)) ∧ EV w wr w.heap.size z qs) (fun _ i _ => l.length - (intOf i).toNat)
        case atStart => exact ⟨0, [], Nat.zero_le _, rfl, Lib.hid rfl, Lib.hid HR.out, hEV⟩
        case round =>
          clear hEV
          obtain ⟨k, qs, hk, rfl, hql, hev, hEV⟩ := hrel
          obtain ⟨Az, cz, rfl, hz1, hz2⟩ := own_form hEV.hz
          have hq23 : qs.length ≤ 23 := by rw [hql.out]; omega
          by_cases hlt : k < l.length
          · obtain ⟨x, hx⟩ : ∃ x, l[k]? = some x := ⟨_, List.getElem?_eq_getElem hlt⟩
            obtain ⟨b, off, rfl, bl, c0, c1, c2⟩ := nd_cells (h.below hEV.hB) hx
            have hgood := HF.out k x hx
            have hdr : Hid (l.drop k = x :: l.drop (k + 1)) := by
              obtain ⟨hk', hv⟩ := List.getElem?_eq_some_iff.1 hx
              show _ = _
              rw [List.drop_eq_getElem_cons hk', hv]
            clear hx
            go_upto_region 15 with (fail)
            have hs : Below wr.heap.size wr (wr.alloc (.cells #[.int .i64 x.leaf, .int .i64 x.left, .int .i64 x.right] 80)) := by (repeat' (first | exact Below.refl _ _ | assumption | refine Below.setCell ?_ (by first | omega | exact Below.size (by assumption) | (simp; done) | (simp; omega)) _ | refine Below.alloc ?_ (by first | omega | exact Below.size (by assumption) | (simp; done) | (simp; omega)) _ | refine Below.drew ?_ | refine below_drewN ?_ _))
            have kN := Blk.new wr 80 #[.int .i64 x.leaf, .int .i64 x.left, .int .i64 x.right]
            replace hEV := hEV.all hs
            obtain ⟨gN, hgN⟩ : ∃ g, g = wr.heap.size := ⟨_, rfl⟩
            obtain ⟨W, hW⟩ : ∃ W', W' = wr.alloc (.cells #[.int .i64 x.leaf, .int .i64 x.left, .int .i64 x.right] 80) := ⟨_, rfl⟩
            rw [← hgN] at kN ⊢
            rw [← hW] at kN hEV ⊢
            clear hW hgN hs c0 c1 c2 bl
            have n0 := kN.cell 0
            have n1 := kN.cell 1
            have n2 := kN.cell 2
            unfold Nd.bad at hgood
            by_cases hl0 : 0 ≤ x.leaf
            · rw [if_pos hl0] at hgood
              obtain ⟨n, hn⟩ : ∃ n : Nat, x.leaf = n := ⟨x.leaf.toNat, by omega⟩
              have hnl : n < ps.length := by omega
              obtain ⟨p, hpn⟩ : ∃ p, ps[n]? = some p := ⟨_, List.getElem?_eq_getElem hnl⟩
              obtain ⟨b', off', rfl, bl', d0, d1⟩ := pt_get (hrow.below hEV.hB) hpn
              have hpA := (HE.out p (List.mem_of_getElem? hpn)).keep hEV.hB hEV.hb
              have hsm := small_of ((ok_iff _).2 (HOK.out p.er (List.mem_map_of_mem (List.mem_of_getElem? hpn))))
              have hstep : Hid (evalUp (ps.map PtM.er) (qs.map PtM.er) (l.drop k) = evalUp (ps.map PtM.er) (qs.map PtM.er ++ [p.er]) (l.drop (k + 1))) := by
                show _ = _
                rw [hdr.out, evalUp_leaf hl0, hn, Int.toNat_natCast, List.getD_eq_getElem?_getD, List.getElem?_map, hpn]; rfl
              have t0 : decide ((0 : Int) ≤ (n : Int)) = true := by simp
              rw [hn] at n0
              clear hl0 hgood hpn
              replace hn := Lib.hid hn
              go_wp2_with fail
              refine (copy_any p W hpA hsm).mono ?_
              rintro e w3 ⟨⟨nf, nd, na, nc, nda, ndc⟩, rfl, own3, er3, hb3⟩
              dsimp only
              have hEV3 := hEV.all hb3
              have own3' := own3.mono hEV.hb
              replace er3 := Lib.hid er3
              obtain ⟨i0, hi, hiz, his, hib⟩ := info_parts Tryd.infoParts
              go_wp2_with (at_builtin
                           refine wpList_append_own _ rfl (.tmp 43) (.tmp 50) 58 rfl w.heap.size 25 i0 _ 2 48 Tryd.underlying58 hi hiz his hib rfl (by decide) _ _ _ rfl (hEV3.hz.alloc _) ⟨w3.heap.size, 0, none⟩ 1 1 [.slice na nf.length nc, .slice nda nd.length ndc] rfl rfl ?c1 ?c2 ?c3 ?c4 ?c5 ?_
                           case c1 => exact fun j u hu => cells_new j u hu
                           case c2 => exact pt_one ⟨nf, nd, na, nc, nda, ndc⟩
                           case c3 => unfold maxLen; omega
                           case c4 => omega
                           case c5 => have := hEV3.hb; simp; omega
                           intro v' w5 hown5 hg5 _
                           have hst : Below w3.heap.size w3 (w3.alloc (.cells #[.slice na nf.length nc, .slice nda nd.length ndc] 25)) := by (repeat' (first | exact Below.refl _ _ | assumption | refine Below.setCell ?_ (by first | omega | exact Below.size (by assumption) | (simp; done) | (simp; omega)) _ | refine Below.alloc ?_ (by first | omega | exact Below.size (by assumption) | (simp; done) | (simp; omega)) _ | refine Below.drew ?_ | refine below_drewN ?_ _))
                           have hE5 := (hEV3.all hst).push (q := ⟨nf, nd, na, nc, nda, ndc⟩) (own3'.alloc _) hown5 hg5
                           clear hst hg5 hown5)
              go_roundw
              case rel => exact ⟨k + 1, qs ++ [⟨nf, nd, na, nc, nda, ndc⟩], by omega, by go_num, Lib.hid (by rw [List.length_append, hql.out]; rfl), Lib.hid (by rw [hev.out, hstep.out, List.map_append, ← er3.out]; rfl), hE5⟩
              case measure => simp [intOf]; omega
            · rw [if_neg hl0] at hgood
              obtain ⟨na, hna⟩ : ∃ n : Nat, x.left = n := ⟨x.left.toNat, by omega⟩
              obtain ⟨nb, hnb⟩ : ∃ n : Nat, x.right = n := ⟨x.right.toNat, by omega⟩
              have la : na < qs.length := by rw [hql.out]; omega
              have lb : nb < qs.length := by rw [hql.out]; omega
              obtain ⟨p1, hp1⟩ : ∃ p, qs[na]? = some p := ⟨_, List.getElem?_eq_getElem la⟩
              obtain ⟨p2, hp2⟩ : ∃ p, qs[nb]? = some p := ⟨_, List.getElem?_eq_getElem lb⟩
              have a1 := (hEV.each p1 (List.mem_of_getElem? hp1)).at_
              have a2 := (hEV.each p2 (List.mem_of_getElem? hp2)).at_
              have R := Reads.of_own hEV.hz
              obtain ⟨b0, o0, rfl, bl0, ca0, ca1⟩ := pt_get R hp1
              obtain ⟨b1, o1, he1, bl1, cb0, cb1⟩ := pt_get R hp2
              obtain ⟨rfl, rfl⟩ : b1 = b0 ∧ o1 = o0 := by
                injection he1 with he1
                injection he1 with h1 h2
                exact ⟨h1.symm, h2.symm⟩
              have R2 := R.alloc (Nat.le_refl _) (.cells #[.slice none 0 0, .slice none 0 0] 25)
              obtain ⟨b2, o2, he2, _, ca2, ca3⟩ := pt_get R2 hp1
              obtain ⟨b3, o3, he3, _, cb2, cb3⟩ := pt_get R2 hp2
              obtain ⟨rfl, rfl⟩ : b2 = b1 ∧ o2 = o1 := by
                injection he2 with he2
                injection he2 with h1 h2
                exact ⟨h1.symm, h2.symm⟩
              obtain ⟨rfl, rfl⟩ : b3 = b2 ∧ o3 = o2 := by
                injection he3 with he3
                injection he3 with h1 h2
                exact ⟨h1.symm, h2.symm⟩
              have kN2 := kN.alloc (.cells #[.slice none 0 0, .slice none 0 0] 25)
              have n3 := kN2.cell 1
              have n4 := kN2.cell 2
              have g1 : Hid ((qs.map PtM.er).getD x.left.toNat .nil = p1.er) := by
                show _ = _
                rw [hna, Int.toNat_natCast, List.getD_eq_getElem?_getD, List.getElem?_map, hp1]; rfl
              have g2 : Hid ((qs.map PtM.er).getD x.right.toNat .nil = p2.er) := by
                show _ = _
                rw [hnb, Int.toNat_natCast, List.getD_eq_getElem?_getD, List.getElem?_map, hp2]; rfl
              have HL0 := Lib.hid hl0
              have t0 : decide ((0 : Int) ≤ x.leaf) = false := decide_eq_false hl0
              rw [hna] at n1 n3
              rw [hnb] at n2 n4
              clear hp1 hp2 hl0 hgood R R2 he1 he2 he3 kN2
              replace hna := Lib.hid hna
              replace hnb := Lib.hid hnb
              go_upto_region 17 with (fail)
              go_cut [13, 14] (fun bx en wx => JoinedAt w p1 p2 (.slice (some ⟨b3, o3, none⟩) qs.length cz) qs bx en wx)
              case first =>
                have hw1 : Below W.heap.size W W.drew := (Below.refl _ W).drew
                have hw2 : Below W.heap.size W (W.alloc (.cells #[.slice none 0 0, .slice none 0 0] 25)).drew := ((Below.refl W.heap.size W).alloc (Nat.le_refl _) _).drew
                have hzb : (Value.slice (some ⟨b3, o3, none⟩) qs.length cz).ownBlock ≠ some W.heap.size := fun e => by have := (hEV.hz.lt _ e).2; omega
                go_region_with (go_at_call 85
                                first
                                  | refine (join_any p1 p2 W.drew (a1.all hw1) (a2.all hw1)).mono ?_
                                  | refine (join_any p1 p2 (W.alloc (.cells #[.slice none 0 0, .slice none 0 0] 25)).drew (a1.all hw2) (a2.all hw2)).mono ?_
                                rintro e w3 ⟨q, rfl, oq, eq, hb3⟩
                                first
                                  | (have hb4 : Below W.heap.size W w3 := ((Below.refl _ W).drew).trans hb3
                                     have oq4 : q.Own w3 W.heap.size := oq)
                                  | (have kb := ((Blk.new W 25 #[.slice none 0 0, .slice none 0 0]).drew).all hb3
                                     have hb4 : Below W.heap.size W w3 := (((Below.refl W.heap.size W).alloc (Nat.le_refl _) (.cells #[.slice none 0 0, .slice none 0 0] 25)).drew).trans (hb3.mono (by simp))
                                     have oq4 : q.Own w3 W.heap.size := oq.mono (by simp)
                                     have kb0 := kb.cell 0
                                     have kb1 := kb.cell 1
                                     have kb2 := kb.frozen 0
                                     have kb3 := kb.frozen 1))
                all_goals go_wp2
                all_goals go_meet
                all_goals first
                  | exact evEndA hEV hb4 oq4 eq
                  | exact evEndB hEV hb4 oq4 eq kb hzb
              case rest =>
                clear hEV a1 a2 ca0 ca1 cb0 cb1 ca2 ca3 cb2 cb3 bl0 bl1 n0 n1 n2 n3 n4 kN
                obtain ⟨q, n, g, rfl, rfl, hj, kq, oq, hEV⟩ := hcut
                by_cases hn0 : n = 0
                · subst hn0
                  have hstep : Hid (evalUp (ps.map PtM.er) (qs.map PtM.er) (l.drop k) = evalUp (ps.map PtM.er) (qs.map PtM.er ++ [q.er]) (l.drop (k + 1))) := by
                    show _ = _
                    rw [hdr.out, evalUp_ok HL0.out (by rw [g1.out, g2.out, hj.out]), g1.out, g2.out, hj.out]
                  have q0 := kq.cell 0
                  have q1 := kq.cell 1
                  have gl := kq.lt
                  obtain ⟨i0, hi, hiz, his, hib⟩ := info_parts Tryd.infoParts
                  go_wp2_with (at_builtin
                               refine wpList_append_own _ rfl (.tmp 69) (.tmp 71) 58 rfl w.heap.size 25 i0 _ 2 48 Tryd.underlying58 hi hiz his hib rfl (by decide) _ _ _ rfl (hEV.hz.alloc _) ⟨wc.heap.size, 0, none⟩ 1 1 [.slice q.fa q.frs.length q.fc, .slice q.da q.dfs.length q.dc] rfl rfl ?c1 ?c2 ?c3 ?c4 ?c5 ?_
                               case c1 => exact fun j u hu => cells_new j u hu
                               case c2 => exact pt_one q
                               case c3 => unfold maxLen; omega
                               case c4 => omega
                               case c5 => have := hEV.hb; simp; omega
                               intro v' w5 hown5 hg5 _
                               have hst : Below wc.heap.size wc (wc.alloc (.cells #[.slice (q).fa (q).frs.length (q).fc, .slice (q).da (q).dfs.length (q).dc] 25)) := by (repeat' (first | exact Below.refl _ _ | assumption | refine Below.setCell ?_ (by first | omega | exact Below.size (by assumption) | (simp; done) | (simp; omega)) _ | refine Below.alloc ?_ (by first | omega | exact Below.size (by assumption) | (simp; done) | (simp; omega)) _ | refine Below.drew ?_ | refine below_drewN ?_ _))
                               have hE5 := (hEV.all hst).push (q := q) (oq.alloc _) hown5 hg5
                               clear hst hg5 hown5)
                  go_roundw
                  case rel => exact ⟨k + 1, qs ++ [q], by omega, by go_num, Lib.hid (by rw [List.length_append, hql.out]; rfl), Lib.hid (by rw [hev.out, hstep.out, List.map_append]; rfl), hE5⟩
                  case measure => simp [intOf]; omega
                · have hE : Hid (evalRes l (ps.map PtM.er) = ([], n)) := by
                    show _ = _
                    rw [hev.out, hdr.out, evalUp_bad HL0.out (by rw [g1.out, g2.out, hj.out]; exact hn0), g1.out, g2.out, hj.out]
                  have t1 : (n != 0) = true := by simpa using hn0
                  have HN := Lib.hid hn0
                  clear hn0
                  go_wp2
                  go_ret2
                  exact ⟨_, [], by rw [hE.out]; rfl, fun _ => rfl, fun h0 => absurd (by rw [hE.out] at h0; exact h0) HN.out, hEV.hB⟩
          · obtain rfl : k = l.length := by omega
            have hE : Hid (evalRes l (ps.map PtM.er) = (qs.map PtM.er, 0)) := by
              show _ = _
              rw [hev.out, List.drop_length]; rfl
            go_wp2
            go_ret2
            exact ⟨_, qs, by rw [hE.out]; rfl, fun h0 => absurd (by rw [hE.out]) h0, fun _ => ⟨hEV.hz, hEV.each, by rw [hE.out]⟩, hEV.hB⟩
  · have HC : Hid (ckPlan l ((ps.map PtM.er).length : Nat) ≠ 0) := by show ckPlan l ((ps.map PtM.er).length : Nat) ≠ 0; rw [List.length_map]; exact hc
    have HR := Lib.hid (evalRes_plan HC.out)
    have HK := planCheck_any A c l ps.length w h hm
    have hlen : ckPlan l ((ps.map PtM.er).length : Nat) = ckPlan l ps.length := by rw [List.length_map]
    rw [hlen] at HR
    obtain ⟨n, hn⟩ : ∃ n, ckPlan l ps.length = n := ⟨_, rfl⟩
    rw [hn] at HK HR hc
    have t1 : (n != 0) = true := by simpa using hc
    have HN := Lib.hid hc
    clear hlen hn hc hplen
    go_enter Tryd.func40, Tryd.ntmps40
    go_wp2_with fail
    refine HK.mono ?_
    rintro e w1 ⟨rfl, hb1⟩
    go_wp2
    go_ret2
    exact ⟨_, [], by rw [HR.out]; rfl, fun _ => rfl, fun h0 => absurd (by rw [HR.out] at h0; exact h0) HN.out, hb1⟩
end Go.Proofs.YtokiekachlmigaaDoor
