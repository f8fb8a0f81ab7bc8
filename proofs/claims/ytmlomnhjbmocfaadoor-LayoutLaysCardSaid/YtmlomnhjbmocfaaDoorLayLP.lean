/- ropewalklaw.LayoutLays: the call returns true, where the part is laid out. -/
import Derived.Test.YtmlomnhjbmocfaaDoorLaidF
import Derived.Test.YtmlomnhjbmocfaaDoorLayX
import Derived.Test.YtmlomnhjbmocfaaDoorRefLay
import Derived.Test.YtmlomnhjbmocfaaDoorRefStands
import Derived.Test.YtmlomnhjbmocfaaDoorSameLay
import Derived.Test.YtmlomnhjbmocfaaDoorRefCheck
set_option linter.all false
namespace Go.Proofs.YtmlomnhjbmocfaaDoor
open Go.RowKit

theorem Reads.past {w w' : World} {B g size n : Nat} {A : Option Addr} {xs : List Value} (h : Reads w B size A n xs) (hg : w.grownBy w' (some g)) (hB : B ≤ w.heap.size) (hf : ∀ a, A = some a → g < a.block) : Reads w' B size A n xs := by
  refine ⟨h.1, fun hn => ?_⟩
  obtain ⟨b, off, e, hb, hc⟩ := h.2 hn
  refine ⟨b, off, e, hb, fun j u hu => ?_⟩
  have h1 := hf _ e
  rw [World.cell?_of_block (hg.block b (by omega) (fun e => by injection e with e; simp only at h1; omega))]
  exact hc j u hu
theorem LyM.At.past {w w' : World} {g : Nat} {l : LyM} (h : l.At w w.heap.size) (hg : w.grownBy w' (some g)) (hf : l.Far (g + 1)) : l.At w' w'.heap.size :=
  ⟨(h.fr.past hg (Nat.le_refl _) (fun a e => hf.1 a e)).more hg.size, (h.ns.past hg (Nat.le_refl _) (fun a e => hf.2.1 a e)).more hg.size, (h.cs.past hg (Nat.le_refl _) (fun a e => hf.2.2 a e)).more hg.size⟩
theorem LyM.Far.less {B B' : Nat} {l : LyM} (h : l.Far B) (hB : B' ≤ B) : l.Far B' := ⟨fun a e => Nat.le_trans hB (h.1 a e), fun a e => Nat.le_trans hB (h.2.1 a e), fun a e => Nat.le_trans hB (h.2.2 a e)⟩
theorem layR_bad {p : Prt} {base : Int} (h : layE p base ≠ 0) : layR p base = .zero := by unfold layR; rw [if_neg h]
theorem sameLay_bad (l m : LyM) (w : World) (hl : l.At w w.heap.size) (hm : m.At w w.heap.size) (h1 : l.r = .zero) (h2 : m.r = .zero) :
    Calls Tryd.prog 11 #[.agg #[.slice (l).fa 0 (l).fc, .slice (l).na 0 (l).nc, .slice (l).ca 0 (l).cc, .int .i64 0, .int .i64 0, .int .i64 0, .int .i64 0, .int .i64 0, .int .i64 0, .int .i64 0, .int .i64 0, .int .i64 0, .int .i64 0, .int .i64 0, .int .i64 0], .agg #[.slice (m).fa 0 (m).fc, .slice (m).na 0 (m).nc, .slice (m).ca 0 (m).cc, .int .i64 0, .int .i64 0, .int .i64 0, .int .i64 0, .int .i64 0, .int .i64 0, .int .i64 0, .int .i64 0, .int .i64 0, .int .i64 0, .int .i64 0, .int .i64 0]] w fun e w' => e = .returned (.bool true) ∧ Below w.heap.size w w' :=
  sameLay_same l m [] [] [] 0 0 0 0 0 0 0 0 0 0 w hl hm h1 (h2.trans h1.symm) (by simp) (by simp) (by simp)
theorem sameLay_good (p : PtM) (n : Nat) (l m : LyM) (w : World) (hl : l.At w w.heap.size) (hm : m.At w w.heap.size) (h0 : layE p.er n = 0) (h1 : l.r = layR p.er n) (h2 : m.r = layR p.er n) :
    Calls Tryd.prog 11 #[.agg #[(.slice l.fa p.frs.length l.fc), (.slice l.na (layEnd p.er n).ns.length l.nc), (.slice l.ca (layEnd p.er n).cs.length l.cc), (.int .i64 0), (.int .i64 (secFrom p.er.frs n 1 : Nat)), (.int .i64 (secFrom p.er.frs n 2 : Nat)), (.int .i64 (secFrom p.er.frs n 3 : Nat)), (.int .i64 (secFrom p.er.frs n 4 : Nat)), (.int .i64 (secFrom p.er.frs n 5 : Nat)), (.int .i64 0), (.int .i64 (toN p.er n 1 : Nat)), (.int .i64 (toN p.er n 2 : Nat)), (.int .i64 (toN p.er n 3 : Nat)), (.int .i64 (toN p.er n 4 : Nat)), (.int .i64 (toN p.er n 5 : Nat))], .agg #[(.slice m.fa p.frs.length m.fc), (.slice m.na (layEnd p.er n).ns.length m.nc), (.slice m.ca (layEnd p.er n).cs.length m.cc), (.int .i64 0), (.int .i64 (secFrom p.er.frs n 1 : Nat)), (.int .i64 (secFrom p.er.frs n 2 : Nat)), (.int .i64 (secFrom p.er.frs n 3 : Nat)), (.int .i64 (secFrom p.er.frs n 4 : Nat)), (.int .i64 (secFrom p.er.frs n 5 : Nat)), (.int .i64 0), (.int .i64 (toN p.er n 1 : Nat)), (.int .i64 (toN p.er n 2 : Nat)), (.int .i64 (toN p.er n 3 : Nat)), (.int .i64 (toN p.er n 4 : Nat)), (.int .i64 (toN p.er n 5 : Nat))]] w fun e w' => e = .returned (.bool true) ∧ Below w.heap.size w w' := by
  have hc := (layE_zero h0).1
  have hlen := lay_len hc n
  have hdl := setS_len (p.er.dfs.map Df.name)
  have hsm := small_of hc
  have hd6 := hsm.df
  have hf6 := hsm.fr
  have hl1 : (layFr p.er n).length = p.frs.length := by unfold layFr; simp [PtM.er]
  have n60 : (layEnd p.er n).ns.length ≤ 60 := by
    have e : (p.er.dfs.map Df.name).length = p.dfs.length := by simp [PtM.er]
    have := hlen.2
    unfold definedP at this
    omega
  have hh := sameLay_same l m (layFr p.er n) (layEnd p.er n).ns (layEnd p.er n).cs _ _ _ _ _ _ _ _ _ _ w hl hm (h1.trans (layR_zero h0)) (h2.trans h1.symm) (by omega) (by omega) (by omega)
  rw [hl1] at hh
  exact hh
end Go.Proofs.YtmlomnhjbmocfaaDoor
