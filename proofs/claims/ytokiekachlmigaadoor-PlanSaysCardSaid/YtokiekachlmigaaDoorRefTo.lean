/- The two closures of ropewalkref.Dropped: what they compute. -/
import Derived.Test.YtokiekachlmigaaDoorIndexS
import Derived.Test.YtokiekachlmigaaDoorBA
import Derived.Deep.DeepCutAuto
import Derived.Deep.RegionWith
import Derived.Deep.RegionHeld3
set_option linter.all false
namespace Go.Proofs.YtokiekachlmigaaDoor
open Go.RowKit

theorem gone_empty {x : Frg} {l : List ByteArray} (h : x.group.size = 0) : x.gone l = false := decide_eq_false (fun hn => hn.1 h)
theorem gone_some {x : Frg} {l : List ByteArray} (h : 0 < x.group.size) : x.gone l = decide (x.group ∈ l) := by
  unfold Frg.gone
  exact decide_eq_decide.2 ⟨fun hn => hn.2, fun hn => ⟨by omega, hn⟩⟩

set_option maxHeartbeats 8000000 in
set_option maxRecDepth 100000 in
theorem gone_any (p : PtM) (A : Option Addr) (c : Nat) (l : List ByteArray) (i : Nat) (x : FgM) (hx : p.frs[i]? = some x) (gp gl : Nat) (w : World)
    (kp : Blk w gp 25 #[.slice p.fa p.frs.length p.fc, .slice p.da p.dfs.length p.dc]) (kl : Blk w gl 26 #[.slice A l.length c])
    (h : p.At w w.heap.size) (hl : Reads w w.heap.size 1 A l.length (strsV l)) (hlm : l.length ≤ 9223372036854775807) :
    Calls Tryd.prog 170 #[.int .i64 i, .pointer (some ⟨gp, 0, none⟩), .pointer (some ⟨gl, 0, none⟩)] w fun e w' => e = .returned (.bool (x.f.gone l)) ∧ Below w.heap.size w w' := by
  obtain ⟨hf, _, _, hfm, _⟩ := h
  obtain ⟨b, off, hfa, bl, c0, c1, c2, c3, c4, c5⟩ := fg_get hf hx
  have hi : i < p.frs.length := (List.getElem?_eq_some_iff.1 hx).1
  clear hx c0 c1 c3 c4 c5
  obtain ⟨frs, dfs, fa, fc, da, dc⟩ := p
  simp only at *
  subst hfa
  have p0 := kp.cell 0
  have l0 := kl.cell 0
  have hdr : Below w.heap.size w w.drew := (Below.refl _ w).drew
  have hld : Reads w.drew w.drew.heap.size 1 A l.length (strsV l) := (hl.below hdr).more hdr.size
  go_enter Tryd.func170, Tryd.ntmps170
  go_upto_region 1 with (fail)
  refine wp_region_held_drew (S := (fun w' => w'.cell? ⟨gp, 0, none⟩ = some (.slice (some ⟨b, off, none⟩) frs.length fc) ∧ w'.cell? ⟨b, off + i * 6 + 2, none⟩ = some (.string x.f.group) ∧ w'.cell? ⟨gl, 0, none⟩ = some (.slice A l.length c))) (by kernel_rfl) ?_ (fun hHeld => ?_)
  focus ((try dsimp only); go_keep)
  rcases Nat.eq_zero_or_pos x.f.group.size with h0 | h0
  · have h1 := toList_nil h0
    have HG := Lib.hid (gone_empty (l := l) h0)
    clear h0
    (refine wpAnyH_take (i := 0) (oi := { dst := some 5, op := Op.fieldAddr 25 (Operand.tmp 1) 0, type := 0, pos := "parts.go:274", after := #[], guard := none }) (v := ?_) rfl (by kernel_rfl) (by kernel_rfl) (by kernel_rfl) (fun _ _ _ h => h) (Or.inl ⟨by rfl, ?_⟩) (by assumption) ?_; rotate_left; (focus (intro w hSw; (try dsimp only at hSw); go_simp; (try with_reducible rfl))); (try simp only [Act.put, List.setIfInBounds_toArray, List.set_cons_zero, List.set_cons_succ]))
    (refine wpAnyH_take (i := 1) (oi := { dst := some 6, op := Op.load 22 (Operand.tmp 5), type := 22, pos := "parts.go:274", after := #[{ on := 0, ground := Ground.data }], guard := none }) (v := ?_) rfl (by kernel_rfl) (by kernel_rfl) (by kernel_rfl) (fun _ _ _ h => h) (Or.inl ⟨by rfl, ?_⟩) (by assumption) ?_; rotate_left; (focus (intro w hSw; (try dsimp only at hSw); go_simp; (try with_reducible rfl))); (try simp only [Act.put, List.setIfInBounds_toArray, List.set_cons_zero, List.set_cons_succ]))
    (refine wpAnyH_take (i := 2) (oi := { dst := some 7, op := Op.move (Operand.tmp 0), type := 3, pos := "parts.go:274", after := #[], guard := none }) (v := ?_) rfl (by kernel_rfl) (by kernel_rfl) (by kernel_rfl) (fun _ _ _ h => h) (Or.inl ⟨by rfl, ?_⟩) (by assumption) ?_; rotate_left; (focus (intro w hSw; (try dsimp only at hSw); go_simp; (try with_reducible rfl))); (try simp only [Act.put, List.setIfInBounds_toArray, List.set_cons_zero, List.set_cons_succ]))
    (refine wpAnyH_take (i := 3) (oi := { dst := some 8, op := Op.indexAddr 22 (Operand.tmp 6) (Operand.tmp 7), type := 0, pos := "parts.go:274", after := #[{ on := 1, ground := Ground.data }, { on := 2, ground := Ground.data }], guard := none }) (v := ?_) rfl (by kernel_rfl) (by kernel_rfl) (by kernel_rfl) (fun _ _ _ h => h) (Or.inl ⟨by rfl, ?_⟩) (by assumption) ?_; rotate_left; (focus (intro w hSw; (try dsimp only at hSw); go_simp; (try with_reducible rfl))); (try simp only [Act.put, List.setIfInBounds_toArray, List.set_cons_zero, List.set_cons_succ]))
    (refine wpAnyH_take (i := 4) (oi := { dst := some 9, op := Op.fieldAddr 92 (Operand.tmp 8) 2, type := 0, pos := "parts.go:274", after := #[{ on := 3, ground := Ground.data }], guard := none }) (v := ?_) rfl (by kernel_rfl) (by kernel_rfl) (by kernel_rfl) (fun _ _ _ h => h) (Or.inl ⟨by rfl, ?_⟩) (by assumption) ?_; rotate_left; (focus (intro w hSw; (try dsimp only at hSw); go_simp; (try with_reducible rfl))); (try simp only [Act.put, List.setIfInBounds_toArray, List.set_cons_zero, List.set_cons_succ]))
    (refine wpAnyH_take (i := 5) (oi := { dst := some 10, op := Op.load 9 (Operand.tmp 9), type := 9, pos := "parts.go:274", after := #[{ on := 4, ground := Ground.data }], guard := none }) (v := ?_) rfl (by kernel_rfl) (by kernel_rfl) (by kernel_rfl) (fun _ _ _ h => h) (Or.inl ⟨by rfl, ?_⟩) (by assumption) ?_; rotate_left; (focus (intro w hSw; (try dsimp only at hSw); go_simp; (try with_reducible rfl))); (try simp only [Act.put, List.setIfInBounds_toArray, List.set_cons_zero, List.set_cons_succ]))
    (refine wpAnyH_take (i := 6) (oi := { dst := some 11, op := Op.binOp BinOp.neq 9 (Operand.tmp 10) (Operand.const (Value.string { data := #[] })) 9, type := 4, pos := "parts.go:274", after := #[{ on := 5, ground := Ground.data }], guard := none }) (v := ?_) rfl (by kernel_rfl) (by kernel_rfl) (by kernel_rfl) (fun _ _ _ h => h) (Or.inl ⟨by rfl, ?_⟩) (by assumption) ?_; rotate_left; (focus (intro w hSw; (try dsimp only at hSw); go_simp; (try with_reducible rfl))); (try simp only [Act.put, List.setIfInBounds_toArray, List.set_cons_zero, List.set_cons_succ]))
    (refine wpAnyH_take (i := 7) (oi := { dst := some 12, op := Op.move (Operand.tmp 11), type := 4, pos := "parts.go:274", after := #[{ on := 6, ground := Ground.data }], guard := none }) (v := ?_) rfl (by kernel_rfl) (by kernel_rfl) (by kernel_rfl) (fun _ _ _ h => h) (Or.inl ⟨by rfl, ?_⟩) (by assumption) ?_; rotate_left; (focus (intro w hSw; (try dsimp only at hSw); go_simp; (try with_reducible rfl))); (try simp only [Act.put, List.setIfInBounds_toArray, List.set_cons_zero, List.set_cons_succ]))
    (refine wpAnyH_take (i := 8) (oi := { dst := some 13, op := Op.load 26 (Operand.tmp 2), type := 26, pos := "parts.go:274", after := #[{ on := 7, ground := Ground.guard }], guard := some (7, true) }) (v := undef) rfl (by kernel_rfl) (by kernel_rfl) (by kernel_rfl) (fun _ _ _ h => h) (Or.inr ⟨by rfl, rfl⟩) (by assumption) ?_; (try simp only [Act.put, List.setIfInBounds_toArray, List.set_cons_zero, List.set_cons_succ]))
    (refine wpAnyH_take (i := 9) (oi := { dst := some 14, op := Op.fieldAddr 25 (Operand.tmp 1) 0, type := 0, pos := "parts.go:274", after := #[{ on := 7, ground := Ground.guard }], guard := some (7, true) }) (v := undef) rfl (by kernel_rfl) (by kernel_rfl) (by kernel_rfl) (fun _ _ _ h => h) (Or.inr ⟨by rfl, rfl⟩) (by assumption) ?_; (try simp only [Act.put, List.setIfInBounds_toArray, List.set_cons_zero, List.set_cons_succ]))
    (refine wpAnyH_take (i := 10) (oi := { dst := some 15, op := Op.load 22 (Operand.tmp 14), type := 22, pos := "parts.go:274", after := #[{ on := 9, ground := Ground.data }, { on := 7, ground := Ground.guard }], guard := some (7, true) }) (v := undef) rfl (by kernel_rfl) (by kernel_rfl) (by kernel_rfl) (fun _ _ _ h => h) (Or.inr ⟨by rfl, rfl⟩) (by assumption) ?_; (try simp only [Act.put, List.setIfInBounds_toArray, List.set_cons_zero, List.set_cons_succ]))
    (refine wpAnyH_take (i := 11) (oi := { dst := some 16, op := Op.move (Operand.tmp 0), type := 3, pos := "parts.go:274", after := #[{ on := 7, ground := Ground.guard }], guard := some (7, true) }) (v := undef) rfl (by kernel_rfl) (by kernel_rfl) (by kernel_rfl) (fun _ _ _ h => h) (Or.inr ⟨by rfl, rfl⟩) (by assumption) ?_; (try simp only [Act.put, List.setIfInBounds_toArray, List.set_cons_zero, List.set_cons_succ]))
    (refine wpAnyH_take (i := 12) (oi := { dst := some 17, op := Op.indexAddr 22 (Operand.tmp 15) (Operand.tmp 16), type := 0, pos := "parts.go:274", after := #[{ on := 10, ground := Ground.data }, { on := 11, ground := Ground.data }, { on := 7, ground := Ground.guard }], guard := some (7, true) }) (v := undef) rfl (by kernel_rfl) (by kernel_rfl) (by kernel_rfl) (fun _ _ _ h => h) (Or.inr ⟨by rfl, rfl⟩) (by assumption) ?_; (try simp only [Act.put, List.setIfInBounds_toArray, List.set_cons_zero, List.set_cons_succ]))
    (refine wpAnyH_take (i := 13) (oi := { dst := some 18, op := Op.fieldAddr 92 (Operand.tmp 17) 2, type := 0, pos := "parts.go:274", after := #[{ on := 12, ground := Ground.data }, { on := 7, ground := Ground.guard }], guard := some (7, true) }) (v := undef) rfl (by kernel_rfl) (by kernel_rfl) (by kernel_rfl) (fun _ _ _ h => h) (Or.inr ⟨by rfl, rfl⟩) (by assumption) ?_; (try simp only [Act.put, List.setIfInBounds_toArray, List.set_cons_zero, List.set_cons_succ]))
    (refine wpAnyH_take (i := 14) (oi := { dst := some 19, op := Op.load 9 (Operand.tmp 18), type := 9, pos := "parts.go:274", after := #[{ on := 13, ground := Ground.data }, { on := 7, ground := Ground.guard }], guard := some (7, true) }) (v := undef) rfl (by kernel_rfl) (by kernel_rfl) (by kernel_rfl) (fun _ _ _ h => h) (Or.inr ⟨by rfl, rfl⟩) (by assumption) ?_; (try simp only [Act.put, List.setIfInBounds_toArray, List.set_cons_zero, List.set_cons_succ]))
    (refine wpAnyH_take (i := 15) (oi := { dst := some 20, op := Op.call { callee := Callee.value (Operand.func 18), args := #[Operand.tmp 13, Operand.tmp 19], argTypes := #[26, 9] }, type := 4, pos := "parts.go:274", after := #[{ on := 8, ground := Ground.data }, { on := 14, ground := Ground.data }, { on := 7, ground := Ground.chain }, { on := 7, ground := Ground.guard }], guard := some (7, true) }) (v := undef) rfl (by kernel_rfl) (by kernel_rfl) (by kernel_rfl) (fun _ _ _ h => h) (Or.inr ⟨by rfl, rfl⟩) (by assumption) ?_; (try simp only [Act.put, List.setIfInBounds_toArray, List.set_cons_zero, List.set_cons_succ]))
    (refine wpAnyH_take (i := 16) (oi := { dst := some 21, op := Op.pick (Operand.tmp 12) (Operand.tmp 20) (Operand.const (Value.bool false)), type := 4, pos := "parts.go:274", after := #[{ on := 7, ground := Ground.data }, { on := 15, ground := Ground.data }], guard := none }) (v := ?_) rfl (by kernel_rfl) (by kernel_rfl) (by kernel_rfl) (fun _ _ _ h => h) (Or.inl ⟨by rfl, ?_⟩) (by assumption) ?_; rotate_left; (focus (intro w hSw; (try dsimp only at hSw); go_simp; (try with_reducible rfl))); (try simp only [Act.put, List.setIfInBounds_toArray, List.set_cons_zero, List.set_cons_succ]))
    (refine wpAnyH_take (i := 17) (oi := { dst := some 4, op := Op.assign (Operand.tmp 21), type := 4, pos := "parts.go:274", after := #[{ on := 16, ground := Ground.data }, { on := 15, ground := Ground.chain }, { on := 0, ground := Ground.phase }, { on := 1, ground := Ground.phase }, { on := 2, ground := Ground.phase }, { on := 3, ground := Ground.phase }, { on := 4, ground := Ground.phase }, { on := 5, ground := Ground.phase }, { on := 6, ground := Ground.phase }, { on := 7, ground := Ground.phase }, { on := 8, ground := Ground.phase }, { on := 9, ground := Ground.phase }, { on := 10, ground := Ground.phase }, { on := 11, ground := Ground.phase }, { on := 12, ground := Ground.phase }, { on := 13, ground := Ground.phase }, { on := 14, ground := Ground.phase }, { on := 15, ground := Ground.phase }, { on := 16, ground := Ground.phase }], guard := none }) (v := ?_) rfl (by kernel_rfl) (by kernel_rfl) (by kernel_rfl) (fun _ _ _ h => h) (Or.inl ⟨by rfl, ?_⟩) (by assumption) ?_; rotate_left; (focus (intro w hSw; (try dsimp only at hSw); go_simp; (try with_reducible rfl))); (try simp only [Act.put, List.setIfInBounds_toArray, List.set_cons_zero, List.set_cons_succ]))
    refine wpAnyH_done (by kernel_rfl) ?_ _
    go_wp2
    go_ret
    exact ⟨ret_val (by rw [HG.out]; rfl), hdr⟩
  · have h1 := toList_some h0
    have h2 := toList_one h0
    have HG := Lib.hid (gone_some (l := l) h0)
    clear h0
    (refine wpAnyH_take (i := 0) (oi := { dst := some 5, op := Op.fieldAddr 25 (Operand.tmp 1) 0, type := 0, pos := "parts.go:274", after := #[], guard := none }) (v := ?_) rfl (by kernel_rfl) (by kernel_rfl) (by kernel_rfl) (fun _ _ _ h => h) (Or.inl ⟨by rfl, ?_⟩) (by assumption) ?_; rotate_left; (focus (intro w hSw; (try dsimp only at hSw); go_simp; (try with_reducible rfl))); (try simp only [Act.put, List.setIfInBounds_toArray, List.set_cons_zero, List.set_cons_succ]))
    (refine wpAnyH_take (i := 1) (oi := { dst := some 6, op := Op.load 22 (Operand.tmp 5), type := 22, pos := "parts.go:274", after := #[{ on := 0, ground := Ground.data }], guard := none }) (v := ?_) rfl (by kernel_rfl) (by kernel_rfl) (by kernel_rfl) (fun _ _ _ h => h) (Or.inl ⟨by rfl, ?_⟩) (by assumption) ?_; rotate_left; (focus (intro w hSw; (try dsimp only at hSw); go_simp; (try with_reducible rfl))); (try simp only [Act.put, List.setIfInBounds_toArray, List.set_cons_zero, List.set_cons_succ]))
    (refine wpAnyH_take (i := 2) (oi := { dst := some 7, op := Op.move (Operand.tmp 0), type := 3, pos := "parts.go:274", after := #[], guard := none }) (v := ?_) rfl (by kernel_rfl) (by kernel_rfl) (by kernel_rfl) (fun _ _ _ h => h) (Or.inl ⟨by rfl, ?_⟩) (by assumption) ?_; rotate_left; (focus (intro w hSw; (try dsimp only at hSw); go_simp; (try with_reducible rfl))); (try simp only [Act.put, List.setIfInBounds_toArray, List.set_cons_zero, List.set_cons_succ]))
    (refine wpAnyH_take (i := 3) (oi := { dst := some 8, op := Op.indexAddr 22 (Operand.tmp 6) (Operand.tmp 7), type := 0, pos := "parts.go:274", after := #[{ on := 1, ground := Ground.data }, { on := 2, ground := Ground.data }], guard := none }) (v := ?_) rfl (by kernel_rfl) (by kernel_rfl) (by kernel_rfl) (fun _ _ _ h => h) (Or.inl ⟨by rfl, ?_⟩) (by assumption) ?_; rotate_left; (focus (intro w hSw; (try dsimp only at hSw); go_simp; (try with_reducible rfl))); (try simp only [Act.put, List.setIfInBounds_toArray, List.set_cons_zero, List.set_cons_succ]))
    (refine wpAnyH_take (i := 4) (oi := { dst := some 9, op := Op.fieldAddr 92 (Operand.tmp 8) 2, type := 0, pos := "parts.go:274", after := #[{ on := 3, ground := Ground.data }], guard := none }) (v := ?_) rfl (by kernel_rfl) (by kernel_rfl) (by kernel_rfl) (fun _ _ _ h => h) (Or.inl ⟨by rfl, ?_⟩) (by assumption) ?_; rotate_left; (focus (intro w hSw; (try dsimp only at hSw); go_simp; (try with_reducible rfl))); (try simp only [Act.put, List.setIfInBounds_toArray, List.set_cons_zero, List.set_cons_succ]))
    (refine wpAnyH_take (i := 5) (oi := { dst := some 10, op := Op.load 9 (Operand.tmp 9), type := 9, pos := "parts.go:274", after := #[{ on := 4, ground := Ground.data }], guard := none }) (v := ?_) rfl (by kernel_rfl) (by kernel_rfl) (by kernel_rfl) (fun _ _ _ h => h) (Or.inl ⟨by rfl, ?_⟩) (by assumption) ?_; rotate_left; (focus (intro w hSw; (try dsimp only at hSw); go_simp; (try with_reducible rfl))); (try simp only [Act.put, List.setIfInBounds_toArray, List.set_cons_zero, List.set_cons_succ]))
    (refine wpAnyH_take (i := 6) (oi := { dst := some 11, op := Op.binOp BinOp.neq 9 (Operand.tmp 10) (Operand.const (Value.string { data := #[] })) 9, type := 4, pos := "parts.go:274", after := #[{ on := 5, ground := Ground.data }], guard := none }) (v := ?_) rfl (by kernel_rfl) (by kernel_rfl) (by kernel_rfl) (fun _ _ _ h => h) (Or.inl ⟨by rfl, ?_⟩) (by assumption) ?_; rotate_left; (focus (intro w hSw; (try dsimp only at hSw); go_simp; (try with_reducible rfl))); (try simp only [Act.put, List.setIfInBounds_toArray, List.set_cons_zero, List.set_cons_succ]))
    (refine wpAnyH_take (i := 7) (oi := { dst := some 12, op := Op.move (Operand.tmp 11), type := 4, pos := "parts.go:274", after := #[{ on := 6, ground := Ground.data }], guard := none }) (v := ?_) rfl (by kernel_rfl) (by kernel_rfl) (by kernel_rfl) (fun _ _ _ h => h) (Or.inl ⟨by rfl, ?_⟩) (by assumption) ?_; rotate_left; (focus (intro w hSw; (try dsimp only at hSw); go_simp; (try with_reducible rfl))); (try simp only [Act.put, List.setIfInBounds_toArray, List.set_cons_zero, List.set_cons_succ]))
    (refine wpAnyH_take (i := 8) (oi := { dst := some 13, op := Op.load 26 (Operand.tmp 2), type := 26, pos := "parts.go:274", after := #[{ on := 7, ground := Ground.guard }], guard := some (7, true) }) (v := ?_) rfl (by kernel_rfl) (by kernel_rfl) (by kernel_rfl) (fun _ _ _ h => h) (Or.inl ⟨by rfl, ?_⟩) (by assumption) ?_; rotate_left; (focus (intro w hSw; (try dsimp only at hSw); go_simp; (try with_reducible rfl))); (try simp only [Act.put, List.setIfInBounds_toArray, List.set_cons_zero, List.set_cons_succ]))
    (refine wpAnyH_take (i := 9) (oi := { dst := some 14, op := Op.fieldAddr 25 (Operand.tmp 1) 0, type := 0, pos := "parts.go:274", after := #[{ on := 7, ground := Ground.guard }], guard := some (7, true) }) (v := ?_) rfl (by kernel_rfl) (by kernel_rfl) (by kernel_rfl) (fun _ _ _ h => h) (Or.inl ⟨by rfl, ?_⟩) (by assumption) ?_; rotate_left; (focus (intro w hSw; (try dsimp only at hSw); go_simp; (try with_reducible rfl))); (try simp only [Act.put, List.setIfInBounds_toArray, List.set_cons_zero, List.set_cons_succ]))
    (refine wpAnyH_take (i := 10) (oi := { dst := some 15, op := Op.load 22 (Operand.tmp 14), type := 22, pos := "parts.go:274", after := #[{ on := 9, ground := Ground.data }, { on := 7, ground := Ground.guard }], guard := some (7, true) }) (v := ?_) rfl (by kernel_rfl) (by kernel_rfl) (by kernel_rfl) (fun _ _ _ h => h) (Or.inl ⟨by rfl, ?_⟩) (by assumption) ?_; rotate_left; (focus (intro w hSw; (try dsimp only at hSw); go_simp; (try with_reducible rfl))); (try simp only [Act.put, List.setIfInBounds_toArray, List.set_cons_zero, List.set_cons_succ]))
    (refine wpAnyH_take (i := 11) (oi := { dst := some 16, op := Op.move (Operand.tmp 0), type := 3, pos := "parts.go:274", after := #[{ on := 7, ground := Ground.guard }], guard := some (7, true) }) (v := ?_) rfl (by kernel_rfl) (by kernel_rfl) (by kernel_rfl) (fun _ _ _ h => h) (Or.inl ⟨by rfl, ?_⟩) (by assumption) ?_; rotate_left; (focus (intro w hSw; (try dsimp only at hSw); go_simp; (try with_reducible rfl))); (try simp only [Act.put, List.setIfInBounds_toArray, List.set_cons_zero, List.set_cons_succ]))
    (refine wpAnyH_take (i := 12) (oi := { dst := some 17, op := Op.indexAddr 22 (Operand.tmp 15) (Operand.tmp 16), type := 0, pos := "parts.go:274", after := #[{ on := 10, ground := Ground.data }, { on := 11, ground := Ground.data }, { on := 7, ground := Ground.guard }], guard := some (7, true) }) (v := ?_) rfl (by kernel_rfl) (by kernel_rfl) (by kernel_rfl) (fun _ _ _ h => h) (Or.inl ⟨by rfl, ?_⟩) (by assumption) ?_; rotate_left; (focus (intro w hSw; (try dsimp only at hSw); go_simp; (try with_reducible rfl))); (try simp only [Act.put, List.setIfInBounds_toArray, List.set_cons_zero, List.set_cons_succ]))
    (refine wpAnyH_take (i := 13) (oi := { dst := some 18, op := Op.fieldAddr 92 (Operand.tmp 17) 2, type := 0, pos := "parts.go:274", after := #[{ on := 12, ground := Ground.data }, { on := 7, ground := Ground.guard }], guard := some (7, true) }) (v := ?_) rfl (by kernel_rfl) (by kernel_rfl) (by kernel_rfl) (fun _ _ _ h => h) (Or.inl ⟨by rfl, ?_⟩) (by assumption) ?_; rotate_left; (focus (intro w hSw; (try dsimp only at hSw); go_simp; (try with_reducible rfl))); (try simp only [Act.put, List.setIfInBounds_toArray, List.set_cons_zero, List.set_cons_succ]))
    (refine wpAnyH_take (i := 14) (oi := { dst := some 19, op := Op.load 9 (Operand.tmp 18), type := 9, pos := "parts.go:274", after := #[{ on := 13, ground := Ground.data }, { on := 7, ground := Ground.guard }], guard := some (7, true) }) (v := ?_) rfl (by kernel_rfl) (by kernel_rfl) (by kernel_rfl) (fun _ _ _ h => h) (Or.inl ⟨by rfl, ?_⟩) (by assumption) ?_; rotate_left; (focus (intro w hSw; (try dsimp only at hSw); go_simp; (try with_reducible rfl))); (try simp only [Act.put, List.setIfInBounds_toArray, List.set_cons_zero, List.set_cons_succ]))
    (refine wpAnyH_ready (rs := [15]) (by kernel_rfl) (by simp) ?_; refine AllReadyH.cons (o := { dst := some 20, op := Op.call { callee := Callee.value (Operand.func 18), args := #[Operand.tmp 13, Operand.tmp 19], argTypes := #[26, 9] }, type := 4, pos := "parts.go:274", after := #[{ on := 8, ground := Ground.data }, { on := 14, ground := Ground.data }, { on := 7, ground := Ground.chain }, { on := 7, ground := Ground.guard }], guard := some (7, true) }) rfl (fun K hK => ?_) AllReadyH.nil)
    go_simp
    (go_at_call 18; refine (containsStr_any A c l x.f.group _ hld hlm).mono ?_; rintro e w3 ⟨rfl, rfl⟩)
    go_wp2_with fail
    refine hK.out _ _ hHeld (fun hHeld => ?_)
    (clear hK K; (try simp only [Act.put, List.setIfInBounds_toArray, List.set_cons_zero, List.set_cons_succ]))
    (refine wpAnyH_take (i := 16) (oi := { dst := some 21, op := Op.pick (Operand.tmp 12) (Operand.tmp 20) (Operand.const (Value.bool false)), type := 4, pos := "parts.go:274", after := #[{ on := 7, ground := Ground.data }, { on := 15, ground := Ground.data }], guard := none }) (v := ?_) rfl (by kernel_rfl) (by kernel_rfl) (by kernel_rfl) (fun _ _ _ h => h) (Or.inl ⟨by rfl, ?_⟩) (by assumption) ?_; rotate_left; (focus (intro w hSw; (try dsimp only at hSw); go_simp; (try with_reducible rfl))); (try simp only [Act.put, List.setIfInBounds_toArray, List.set_cons_zero, List.set_cons_succ]))
    (refine wpAnyH_take (i := 17) (oi := { dst := some 4, op := Op.assign (Operand.tmp 21), type := 4, pos := "parts.go:274", after := #[{ on := 16, ground := Ground.data }, { on := 15, ground := Ground.chain }, { on := 0, ground := Ground.phase }, { on := 1, ground := Ground.phase }, { on := 2, ground := Ground.phase }, { on := 3, ground := Ground.phase }, { on := 4, ground := Ground.phase }, { on := 5, ground := Ground.phase }, { on := 6, ground := Ground.phase }, { on := 7, ground := Ground.phase }, { on := 8, ground := Ground.phase }, { on := 9, ground := Ground.phase }, { on := 10, ground := Ground.phase }, { on := 11, ground := Ground.phase }, { on := 12, ground := Ground.phase }, { on := 13, ground := Ground.phase }, { on := 14, ground := Ground.phase }, { on := 15, ground := Ground.phase }, { on := 16, ground := Ground.phase }], guard := none }) (v := ?_) rfl (by kernel_rfl) (by kernel_rfl) (by kernel_rfl) (fun _ _ _ h => h) (Or.inl ⟨by rfl, ?_⟩) (by assumption) ?_; rotate_left; (focus (intro w hSw; (try dsimp only at hSw); go_simp; (try with_reducible rfl))); (try simp only [Act.put, List.setIfInBounds_toArray, List.set_cons_zero, List.set_cons_succ]))
    refine wpAnyH_done (by kernel_rfl) ?_ _
    go_wp2
    go_ret
    exact ⟨ret_val (by rw [HG.out]; rfl), hdr⟩
def goneV (gp gl : Nat) : Value := .func (.func 170) #[] #[.pointer (some ⟨gp, 0, none⟩), .pointer (some ⟨gl, 0, none⟩)]
def toP (l : List ByteArray) (c : List Frg) (i : Int) : Int := if i < 0 then -1 else (toOf l c).getD i.toNat 0

theorem keepF_take (l : List ByteArray) {c : List Frg} {k : Nat} {x : Frg} (h : c[k]? = some x) : (keepF l (c.take (k + 1))).length = (keepF l (c.take k)).length + (if x.gone l then 0 else 1) := by
  rw [List.take_add_one, keepF_append, List.length_append, h]
  cases hx : x.gone l <;> simp [keepF, hx]
theorem to_get (l : List ByteArray) {c : List Frg} {k : Nat} {x : Frg} (h : c[k]? = some x) : (toOf l c).getD k 0 = if x.gone l then -1 else ((keepF l (c.take k)).length : Int) := by
  obtain ⟨hk, hv⟩ := List.getElem?_eq_some_iff.1 h
  have e : c = c.take k ++ x :: c.drop (k + 1) := by rw [← hv, ← List.drop_eq_getElem_cons hk, List.take_append_drop]
  have hl : (c.take k).length = k := by rw [List.length_take]; omega
  have := to_at l (c.take k) x (c.drop (k + 1))
  rw [← e, hl] at this
  exact this

set_option maxHeartbeats 4000000 in
set_option maxRecDepth 100000 in
theorem to_any (p : PtM) (A : Option Addr) (c : Nat) (l : List ByteArray) (i : Int) (hi : i < p.frs.length) (hm : p.frs.length ≤ 60) (gf gp gl : Nat) (w : World)
    (kf : Blk w gf 101 #[goneV gp gl]) (kp : Blk w gp 25 #[.slice p.fa p.frs.length p.fc, .slice p.da p.dfs.length p.dc]) (kl : Blk w gl 26 #[.slice A l.length c])
    (h : p.At w w.heap.size) (hl : Reads w w.heap.size 1 A l.length (strsV l)) (hlm : l.length ≤ 9223372036854775807) :
    Calls Tryd.prog 171 #[.int .i64 i, .pointer (some ⟨gf, 0, none⟩)] w fun e w' => e = .returned (.int .i64 (toP l p.er.frs i)) ∧ Below w.heap.size w w' := by
  have HGA : Hid (∀ (k : Nat) x W, p.frs[k]? = some x → Below w.heap.size w W → Calls Tryd.prog 170 #[.int .i64 k, .pointer (some ⟨gp, 0, none⟩), .pointer (some ⟨gl, 0, none⟩)] W fun e w' => e = .returned (.bool (x.f.gone l)) ∧ Below W.heap.size W w') :=
    fun k x W hx hb => gone_any p A c l k x hx gp gl W (kp.all hb) (kl.all hb) (h.all hb) ((hl.below hb).more hb.size) hlm
  have hF : Hid (∀ (k : Nat) x, p.frs[k]? = some x → p.er.frs[k]? = some x.f) := fun k x hx => by simp [PtM.er, hx]
  have f0 := kf.cell 0
  unfold goneV at f0
  go_enter Tryd.func171, Tryd.ntmps171
  by_cases hneg : i < 0
  · have q0 : decide (i < 0) = true := decide_eq_true hneg
    have HR : Hid (toP l p.er.frs i = -1) := if_pos hneg
    clear hneg
    go_wp2
    go_ret
    exact ⟨ret_val (by rw [HR.out]; rfl), by (repeat' (first | exact Below.refl _ _ | assumption | refine Below.setCell ?_ (by first | omega | exact Below.size (by assumption) | (simp; done) | (simp; omega)) _ | refine Below.alloc ?_ (by first | omega | exact Below.size (by assumption) | (simp; done) | (simp; omega)) _ | refine Below.drew ?_ | refine below_drewN ?_ _))⟩
  · obtain ⟨n, rfl⟩ : ∃ n : Nat, i = n := ⟨i.toNat, by omega⟩
    have hn : n < p.frs.length := by omega
    have q0 : decide ((n : Int) < 0) = false := decide_eq_false hneg
    obtain ⟨x, hx⟩ : ∃ x, p.frs[n]? = some x := ⟨_, List.getElem?_eq_getElem hn⟩
    have HT : Hid (toP l p.er.frs n = if x.f.gone l then -1 else ((keepF l (p.er.frs.take n)).length : Int)) := by
      show _ = _
      unfold toP
      rw [if_neg hneg, Int.toNat_natCast]
      exact to_get l (hF.out n x hx)
    have HC := HGA.out n x w hx (Below.refl _ _)
    obtain ⟨b, hb⟩ : ∃ b, x.f.gone l = b := ⟨_, rfl⟩
    rw [hb] at HT HC
    clear hneg hb
    replace HC := Lib.hid HC
    rcases b with _ | _
    · have HT : Hid (toP l p.er.frs n = ((keepF l (p.er.frs.take n)).length : Int)) := by have := HT.out; show _ = _; simpa using this
      go_wp2_with (go_at_call 170; refine HC.out.mono ?_; rintro e w1 ⟨rfl, hb1⟩)
      clear f0
      go_loopw [4, 14] (fun m i wr => ∃ k : Nat, k ≤ n ∧ i = .int .i64 k ∧ m = .int .i64 (keepF l (p.er.frs.take k)).length ∧ Below w.heap.size w wr) (fun _ i _ => n - (intOf i).toNat)
      case atStart => exact ⟨0, Nat.zero_le _, rfl, rfl, hb1⟩
      case round =>
        clear hb1
        obtain ⟨k, hk, rfl, rfl, hb⟩ := hrel
        by_cases hlt : k < n
        · obtain ⟨y, hy⟩ : ∃ y, p.frs[k]? = some y := ⟨_, List.getElem?_eq_getElem (by omega)⟩
          have HK := keepF_take l (hF.out k y hy)
          have HD := HGA.out k y wr hy hb
          have hkl := Nat.le_trans (keepF_le l (p.er.frs.take k)) (by rw [List.length_take]; exact Nat.min_le_left _ _)
          obtain ⟨m, hm'⟩ : ∃ m, (keepF l (p.er.frs.take k)).length = m := ⟨_, rfl⟩
          rw [hm'] at HK hkl ⊢
          have f0 := (kf.all hb).cell 0
          unfold goneV at f0
          obtain ⟨b, hb'⟩ : ∃ b, y.f.gone l = b := ⟨_, rfl⟩
          rw [hb'] at HK HD
          clear hb' hy hm'
          replace HD := Lib.hid HD
          rcases b with _ | _
          · have HK' : Hid ((keepF l (p.er.frs.take (k + 1))).length = m + 1) := by show _ = _; simpa using HK
            clear HK
            go_wp2_with (go_at_call 170; refine HD.out.mono ?_; rintro e w2 ⟨rfl, hb2⟩)
            go_roundw
            case rel => exact ⟨k + 1, by omega, by go_num, by rw [HK'.out]; go_num, hb.trans (hb2.mono hb.size)⟩
            case measure => simp [intOf]; omega
          · have HK' : Hid ((keepF l (p.er.frs.take (k + 1))).length = m) := by show _ = _; simpa using HK
            clear HK
            go_wp2_with (go_at_call 170; refine HD.out.mono ?_; rintro e w2 ⟨rfl, hb2⟩)
            go_roundw
            case rel => exact ⟨k + 1, by omega, by go_num, by rw [HK'.out], hb.trans (hb2.mono hb.size)⟩
            case measure => simp [intOf]; omega
        · obtain rfl : k = n := by omega
          go_wp2
          go_ret
          exact ⟨ret_val (by rw [HT.out]; rfl), hb⟩
    · have HT : Hid (toP l p.er.frs n = -1) := by have := HT.out; show _ = _; simpa using this
      go_wp2_with (go_at_call 170; refine HC.out.mono ?_; rintro e w1 ⟨rfl, hb1⟩)
      go_ret
      exact ⟨ret_val (by rw [HT.out]; rfl), hb1⟩
end Go.Proofs.YtokiekachlmigaaDoor
