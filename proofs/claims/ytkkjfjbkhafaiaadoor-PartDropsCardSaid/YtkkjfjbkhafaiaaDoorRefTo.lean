/- The second closure of ropewalkref.Dropped: where a fragment goes. -/
import Derived.Test.YtkkjfjbkhafaiaaDoorRefGone
namespace Go.Proofs.YtkkjfjbkhafaiaaDoor
open Go.RowKit

def goneV (gp gl : Nat) : Value := .func (.func 55) #[] #[.pointer (some ⟨gp, 0, none⟩), .pointer (some ⟨gl, 0, none⟩)]
def toP (l : List ByteArray) (c : List Frg) (i : Int) : Int := if i < 0 then -1 else (toOf l c).getD i.toNat 0

theorem keepF_take (l : List ByteArray) {c : List Frg} {k : Nat} {x : Frg} (h : c[k]? = some x) : (keepF l (c.take (k + 1))).length = (keepF l (c.take k)).length + (if x.gone l then 0 else 1) := by
  rw [List.take_add_one, keepF_append, List.length_append, h]
  cases hx : x.gone l <;> simp [keepF, hx]
theorem to_get (l : List ByteArray) {c : List Frg} {k : Nat} {x : Frg} (h : c[k]? = some x) : (toOf l c).getD k 0 = if x.gone l then -1 else ((keepF l (c.take k)).length : Int) := by
  obtain ⟨hk, hv⟩ := List.getElem?_eq_some_iff.1 h
  have e : c = c.take k ++ x :: c.drop (k + 1) := by rw [← hv, ← List.drop_eq_getElem_cons hk, List.take_append_drop]
  have hl : (c.take k).length = k := by rw [List.length_take]; omega
  have := to_at l (c.take k) x (c.drop (k + 1))
  rw [← e, hl] at this
  exact this

set_option maxHeartbeats 4000000 in
set_option maxRecDepth 100000 in
theorem to_any (p : PtM) (A : Option Addr) (c : Nat) (l : List ByteArray) (i : Int) (hi : i < p.frs.length) (hm : p.frs.length ≤ 60) (gf gp gl : Nat) (w : World)
    (kf : Blk w gf 75 #[goneV gp gl]) (kp : Blk w gp 25 #[.slice p.fa p.frs.length p.fc, .slice p.da p.dfs.length p.dc]) (kl : Blk w gl 38 #[.slice A l.length c])
    (h : p.At w w.heap.size) (hl : Reads w w.heap.size 1 A l.length (strsV l)) (hlm : l.length ≤ 9223372036854775807) :
    Calls Tryd.prog 56 #[.int .i64 i, .pointer (some ⟨gf, 0, none⟩)] w fun e w' => e = .returned (.int .i64 (toP l p.er.frs i)) ∧ Below w.heap.size w w' := by
  have HGA : Hid (∀ (k : Nat) x W, p.frs[k]? = some x → Below w.heap.size w W → Calls Tryd.prog 55 #[.int .i64 k, .pointer (some ⟨gp, 0, none⟩), .pointer (some ⟨gl, 0, none⟩)] W fun e w' => e = .returned (.bool (x.f.gone l)) ∧ Below W.heap.size W w') :=
    fun k x W hx hb => gone_any p A c l k x hx gp gl W (kp.all hb) (kl.all hb) (h.all hb) ((hl.below hb).more hb.size) hlm
  have hF : Hid (∀ (k : Nat) x, p.frs[k]? = some x → p.er.frs[k]? = some x.f) := fun k x hx => by simp [PtM.er, hx]
  have f0 := kf.cell 0
  unfold goneV at f0
  go_enter Tryd.func56, Tryd.ntmps56
  by_cases hneg : i < 0
  · have q0 : decide (i < 0) = true := decide_eq_true hneg
    have HR : Hid (toP l p.er.frs i = -1) := if_pos hneg
    clear hneg
    go_wp2
    go_ret
    exact ⟨ret_val (by rw [HR.out]; rfl), by (repeat' (first | exact Below.refl _ _ | assumption | refine Below.setCell ?_ (by first | omega | exact Below.size (by assumption) | (simp; done) | (simp; omega)) _ | refine Below.alloc ?_ (by first | omega | exact Below.size (by assumption) | (simp; done) | (simp; omega)) _ | refine Below.drew ?_ | refine below_drewN ?_ _))⟩
  · obtain ⟨n, rfl⟩ : ∃ n : Nat, i = n := ⟨i.toNat, by omega⟩
    have hn : n < p.frs.length := by omega
    have q0 : decide ((n : Int) < 0) = false := decide_eq_false hneg
    obtain ⟨x, hx⟩ : ∃ x, p.frs[n]? = some x := ⟨_, List.getElem?_eq_getElem hn⟩
    have HT : Hid (toP l p.er.frs n = if x.f.gone l then -1 else ((keepF l (p.er.frs.take n)).length : Int)) := by
      show _ = _
      unfold toP
      rw [if_neg hneg, Int.toNat_natCast]
      exact to_get l (hF.out n x hx)
    have HC := HGA.out n x w hx (Below.refl _ _)
    obtain ⟨b, hb⟩ : ∃ b, x.f.gone l = b := ⟨_, rfl⟩
    rw [hb] at HT HC
    clear hneg hb
    replace HC := Lib.hid HC
    rcases b with _ | _
    · have HT : Hid (toP l p.er.frs n = ((keepF l (p.er.frs.take n)).length : Int)) := by have := HT.out; show _ = _; simpa using this
      go_wp2_with (go_at_call 55; refine HC.out.mono ?_; rintro e w1 ⟨rfl, hb1⟩)
      clear f0
      go_loopw [4, 14] (fun m i wr => ∃ k : Nat, k ≤ n ∧ i = .int .i64 k ∧ m = .int .i64 (keepF l (p.er.frs.take k)).length ∧ Below w.heap.size w wr) (fun _ i _ => n - (intOf i).toNat)
      case atStart => exact ⟨0, Nat.zero_le _, rfl, rfl, hb1⟩
      case round =>
        clear hb1
        obtain ⟨k, hk, rfl, rfl, hb⟩ := hrel
        by_cases hlt : k < n
        · obtain ⟨y, hy⟩ : ∃ y, p.frs[k]? = some y := ⟨_, List.getElem?_eq_getElem (by omega)⟩
          have HK := keepF_take l (hF.out k y hy)
          have HD := HGA.out k y wr hy hb
          have hkl := Nat.le_trans (keepF_le l (p.er.frs.take k)) (by rw [List.length_take]; exact Nat.min_le_left _ _)
          obtain ⟨m, hm'⟩ : ∃ m, (keepF l (p.er.frs.take k)).length = m := ⟨_, rfl⟩
          rw [hm'] at HK hkl ⊢
          have f0 := (kf.all hb).cell 0
          unfold goneV at f0
          obtain ⟨b, hb'⟩ : ∃ b, y.f.gone l = b := ⟨_, rfl⟩
          rw [hb'] at HK HD
          clear hb' hy hm'
          replace HD := Lib.hid HD
          rcases b with _ | _
          · have HK' : Hid ((keepF l (p.er.frs.take (k + 1))).length = m + 1) := by show _ = _; simpa using HK
            clear HK
            go_wp2_with (go_at_call 55; refine HD.out.mono ?_; rintro e w2 ⟨rfl, hb2⟩)
            go_roundw
            case rel => exact ⟨k + 1, by omega, by go_num, by rw [HK'.out]; go_num, hb.trans (hb2.mono hb.size)⟩
            case measure => simp [intOf]; omega
          · have HK' : Hid ((keepF l (p.er.frs.take (k + 1))).length = m) := by show _ = _; simpa using HK
            clear HK
            go_wp2_with (go_at_call 55; refine HD.out.mono ?_; rintro e w2 ⟨rfl, hb2⟩)
            go_roundw
            case rel => exact ⟨k + 1, by omega, by go_num, by rw [HK'.out], hb.trans (hb2.mono hb.size)⟩
            case measure => simp [intOf]; omega
        · obtain rfl : k = n := by omega
          go_wp2
          go_ret
          exact ⟨ret_val (by rw [HT.out]; rfl), hb⟩
    · have HT : Hid (toP l p.er.frs n = -1) := by have := HT.out; show _ = _; simpa using this
      go_wp2_with (go_at_call 55; refine HC.out.mono ?_; rintro e w1 ⟨rfl, hb1⟩)
      go_ret
      exact ⟨ret_val (by rw [HT.out]; rfl), hb1⟩
end Go.Proofs.YtkkjfjbkhafaiaaDoor
