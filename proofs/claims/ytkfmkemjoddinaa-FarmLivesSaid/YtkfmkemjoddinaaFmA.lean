/- FmA: texts that belong together. -/
import Derived.Test.YtkfmkemjoddinaaEvalX
import Derived.Test.YtkfmkemjoddinaaPlB
set_option linter.all false
/- A farm as plain data, and in memory; what farm.Check says of it. No program in sight. -/
namespace Go.Proofs.Ytkfmkemjoddinaa
open Go.RowKit

structure Gr where
  worker : Int
  until_ : Int
structure Msg where
  kind : Int
  worker : Int
  n : Int
  p : Prt
structure Frm where
  ps : List Prt
  pl : List Nd
  now : Int
  dn : List Bool
  hv : List Prt
  gs : List Gr
  wk : List Int
  nt : List Msg
def badW (n : Nat) (k : Int) : Bool := decide (k < -1) || decide ((n : Int) ≤ k)
def Gr.bad (nw : Nat) (g : Gr) : Bool := decide (g.worker < 0) || (decide ((nw : Int) ≤ g.worker) || (decide (g.until_ < 0) || decide (65541 < g.until_)))
def Msg.bad (nw n : Nat) (m : Msg) : Bool := decide (m.kind < 1) || (decide (2 < m.kind) || (decide (m.worker < 0) || (decide ((nw : Int) ≤ m.worker) || (decide (m.n < 0) || decide ((n : Int) ≤ m.n)))))
def ckMsg (nw n : Nat) (m : Msg) : Int := if m.bad nw n then 3 else ckPart m.p
def Frm.lens (f : Frm) : Int := if f.dn.length ≠ f.pl.length ∨ f.hv.length ≠ f.pl.length ∨ f.gs.length ≠ f.pl.length then 4 else 0
def Frm.rng (f : Frm) : Int := if f.wk.length < 1 ∨ 4 < f.wk.length ∨ f.now < 0 ∨ 65536 < f.now then 3 else 0
def Frm.many (f : Frm) : Int := if 20 < f.nt.length then 2 else 0
def Frm.who (f : Frm) : Int := if f.wk.any (badW f.pl.length) then 5 else 0
def Frm.grs (f : Frm) : Int := if f.gs.any (Gr.bad f.wk.length) then 3 else 0
noncomputable def ckFarm (f : Frm) : Int :=
  firstBad [ckPlan f.pl f.ps.length, f.lens, f.rng, f.many, firstBad ((f.ps ++ f.hv).map ckPart), f.who, f.grs, firstBad (f.nt.map (ckMsg f.wk.length f.pl.length))]
theorem firstBad_cons0 {e : Int} {r : List Int} (h : e = 0) : firstBad (e :: r) = firstBad r := by rw [firstBad, if_neg (by simp [h])]
theorem firstBad_cons1 {e : Int} {r : List Int} (h : e ≠ 0) : firstBad (e :: r) = e := by rw [firstBad, if_pos h]
theorem firstBad_one (e : Int) : firstBad [e] = e := by
  by_cases h : e = 0
  · rw [firstBad_cons0 h, h]; rfl
  · rw [firstBad_cons1 h]

structure MsM where
  kind : Int
  worker : Int
  n : Int
  p : PtM
def MsM.er (m : MsM) : Msg := ⟨m.kind, m.worker, m.n, m.p.er⟩
def Gr.cells (g : Gr) : List Value := [.int .i64 g.worker, .int .i64 g.until_]
def MsM.cells (m : MsM) : List Value := [.int .i64 m.kind, .int .i64 m.worker, .int .i64 m.n, .slice m.p.fa m.p.frs.length m.p.fc, .slice m.p.da m.p.dfs.length m.p.dc]
def grsV (l : List Gr) : List Value := l.flatMap Gr.cells
def mssV (l : List MsM) : List Value := l.flatMap MsM.cells
theorem Gr.cells_len (x : Gr) : x.cells.length = 2 := rfl
theorem MsM.cells_len (x : MsM) : x.cells.length = 5 := rfl
theorem grsV_append (l m : List Gr) : grsV (l ++ m) = grsV l ++ grsV m := by unfold grsV; rw [List.flatMap_append]
theorem mssV_append (l m : List MsM) : mssV (l ++ m) = mssV l ++ mssV m := by unfold mssV; rw [List.flatMap_append]
structure FrM where
  ps : List PtM
  pl : List Nd
  now : Int
  dn : List Bool
  hv : List PtM
  gs : List Gr
  wk : List Int
  nt : List MsM
  pa : Option Addr
  pc : Nat
  la : Option Addr
  lc : Nat
  da : Option Addr
  dc : Nat
  ha : Option Addr
  hc : Nat
  ga : Option Addr
  gc : Nat
  wa : Option Addr
  wc : Nat
  na : Option Addr
  nc : Nat
def FrM.er (f : FrM) : Frm := ⟨f.ps.map PtM.er, f.pl, f.now, f.dn, f.hv.map PtM.er, f.gs, f.wk, f.nt.map MsM.er⟩
def FrM.cells (f : FrM) : List Value := [.slice f.pa f.ps.length f.pc, .slice f.la f.pl.length f.lc, .int .i64 f.now, .slice f.da f.dn.length f.dc, .slice f.ha f.hv.length f.hc, .slice f.ga f.gs.length f.gc, .slice f.wa f.wk.length f.wc, .slice f.na f.nt.length f.nc]
structure FrM.At (w : World) (B : Nat) (f : FrM) : Prop where
  ps : PtsAt w B f.pa f.ps
  pl : Reads w B 3 f.la f.pl.length (ndCells f.pl)
  dn : Reads w B 1 f.da f.dn.length (boolsV f.dn)
  hv : PtsAt w B f.ha f.hv
  gs : Reads w B 2 f.ga f.gs.length (grsV f.gs)
  wk : Reads w B 1 f.wa f.wk.length (intsV f.wk)
  nt : Reads w B 5 f.na f.nt.length (mssV f.nt)
  each : ∀ m ∈ f.nt, m.p.At w B
  big : f.ps.length ≤ 9223372036854775807 ∧ f.pl.length ≤ 9223372036854775807 ∧ f.dn.length ≤ 9223372036854775807 ∧ f.hv.length ≤ 9223372036854775807 ∧ f.gs.length ≤ 9223372036854775807 ∧ f.wk.length ≤ 9223372036854775807 ∧ f.nt.length ≤ 9223372036854775807
theorem FrM.At.keep {w w' : World} {B B' : Nat} {f : FrM} (h : f.At w B) (hb : Below B w w') (hB : B ≤ B') : f.At w' B' :=
  ⟨h.ps.keep hb hB, (h.pl.below hb).more hB, (h.dn.below hb).more hB, h.hv.keep hb hB, (h.gs.below hb).more hB, (h.wk.below hb).more hB, (h.nt.below hb).more hB, fun m hm => (h.each m hm).keep hb hB, h.big⟩
theorem FrM.At.all {w w' : World} {f : FrM} (h : f.At w w.heap.size) (hb : Below w.heap.size w w') : f.At w' w'.heap.size := h.keep hb hb.size
theorem gr_get {w : World} {B : Nat} {A : Option Addr} {l : List Gr} (h : Reads w B 2 A l.length (grsV l)) {i : Nat} {x : Gr} (hx : l[i]? = some x) :
    ∃ b off, A = some ⟨b, off, none⟩ ∧ b < B ∧ w.cell? ⟨b, off + i * 2, none⟩ = some (.int .i64 x.worker) ∧ w.cell? ⟨b, off + i * 2 + 1, none⟩ = some (.int .i64 x.until_) := by
  obtain ⟨b, off, e, hb, hc⟩ := h.2 (by have := (List.getElem?_eq_some_iff.1 hx).1; omega)
  have hg : ∀ j, j < 2 → (grsV l)[i * 2 + j]? = x.cells[j]? := fun j hj => flatMap_get Gr.cells_len l i j x hj hx
  exact ⟨b, off, e, hb, hc _ _ (hg 0 (by omega)), by rw [Nat.add_assoc]; exact hc _ _ (hg 1 (by omega))⟩
theorem ms_get {w : World} {B : Nat} {A : Option Addr} {l : List MsM} (h : Reads w B 5 A l.length (mssV l)) {i : Nat} {x : MsM} (hx : l[i]? = some x) :
    ∃ b off, A = some ⟨b, off, none⟩ ∧ b < B ∧ w.cell? ⟨b, off + i * 5, none⟩ = some (.int .i64 x.kind) ∧ w.cell? ⟨b, off + i * 5 + 1, none⟩ = some (.int .i64 x.worker) ∧ w.cell? ⟨b, off + i * 5 + 2, none⟩ = some (.int .i64 x.n)
      ∧ w.cell? ⟨b, off + i * 5 + 3, none⟩ = some (.slice x.p.fa x.p.frs.length x.p.fc) ∧ w.cell? ⟨b, off + i * 5 + 4, none⟩ = some (.slice x.p.da x.p.dfs.length x.p.dc) := by
  obtain ⟨b, off, e, hb, hc⟩ := h.2 (by have := (List.getElem?_eq_some_iff.1 hx).1; omega)
  have hg : ∀ j, j < 5 → (mssV l)[i * 5 + j]? = x.cells[j]? := fun j hj => flatMap_get MsM.cells_len l i j x hj hx
  refine ⟨b, off, e, hb, hc _ _ (hg 0 (by omega)), ?_, ?_, ?_, ?_⟩ <;> rw [Nat.add_assoc]
  · exact hc _ _ (hg 1 (by omega))
  · exact hc _ _ (hg 2 (by omega))
  · exact hc _ _ (hg 3 (by omega))
  · exact hc _ _ (hg 4 (by omega))
end Go.Proofs.Ytkfmkemjoddinaa

/- What a happening does to a farm, as plain data. No program in sight. -/
namespace Go.Proofs.Ytkfmkemjoddinaa

structure Hap where
  kind : Int
  worker : Int
  k : Int
def Gr.none_ : Gr := ⟨0, 0⟩
def Msg.none_ : Msg := ⟨0, 0, 0, .nil⟩
def sendP (f : Frm) (m : Msg) : Frm := if f.nt.length < 20 then { f with nt := f.nt ++ [m] } else f
noncomputable def giveP (f : Frm) (w : Int) : Frm × Int :=
  match (readyRes f.pl f.ps.length f.dn).1.find? (fun n => decide ((f.gs.getD n.toNat .none_).until_ ≤ f.now)) with
  | some n => (sendP { f with gs := f.gs.set n.toNat ⟨w, f.now + 5⟩ } ⟨1, w, n, .nil⟩, 0)
  | none => (f, 11)
def finishP (f : Frm) (w : Int) : Frm × Int :=
  let n := f.wk.getD w.toNat 0
  if n < 0 then (f, 11) else
    let x := f.pl.getD n.toNat ⟨0, 0, 0⟩
    let g : Frm := { f with wk := f.wk.set w.toNat (-1) }
    if 0 ≤ x.leaf then (sendP g ⟨2, w, n, f.ps.getD x.leaf.toNat .nil⟩, 0)
    else if f.dn.getD x.left.toNat false = false ∨ f.dn.getD x.right.toNat false = false then (g, 0)
    else if (joinP (f.hv.getD x.left.toNat .nil) (f.hv.getD x.right.toNat .nil)).2 = 0 then
      (sendP g ⟨2, w, n, (joinP (f.hv.getD x.left.toNat .nil) (f.hv.getD x.right.toNat .nil)).1⟩, 0)
    else (g, 0)
def arriveP (f : Frm) (k : Nat) : Frm :=
  let m := f.nt.getD k .none_
  let g : Frm := { f with nt := f.nt.eraseIdx k }
  if m.kind = 1 then (if f.wk.getD m.worker.toNat 0 < 0 then { g with wk := f.wk.set m.worker.toNat m.n } else g)
  else if m.kind = 2 then
    (if f.dn.getD m.n.toNat false = false then { g with dn := f.dn.set m.n.toNat true, hv := f.hv.set m.n.toNat m.p, gs := f.gs.set m.n.toNat .none_ } else g)
  else g
/-- Whom a happening speaks of is there. -/
def Hap.off (f : Frm) (x : Hap) : Bool :=
  if x.kind = 1 ∨ x.kind = 2 ∨ x.kind = 7 then decide (x.worker < 0) || decide ((f.wk.length : Int) ≤ x.worker)
  else if x.kind = 3 ∨ x.kind = 4 ∨ x.kind = 5 then decide (x.k < 0) || decide ((f.nt.length : Int) ≤ x.k)
  else false
noncomputable def stepP (f : Frm) (x : Hap) : Frm × Int :=
  if x.off f then (f, 5)
  else if x.kind = 1 then giveP f x.worker
  else if x.kind = 2 then finishP f x.worker
  else if x.kind = 3 then (arriveP f x.k.toNat, 0)
  else if x.kind = 4 then ({ f with nt := f.nt.eraseIdx x.k.toNat }, 0)
  else if x.kind = 5 then (if f.nt.length = 20 then (f, 10) else (sendP f (f.nt.getD x.k.toNat .none_), 0))
  else if x.kind = 6 then (if f.now = 65536 then (f, 10) else ({ f with now := f.now + 1 }, 0))
  else if x.kind = 7 then ({ f with wk := f.wk.set x.worker.toNat (-1) }, 0)
  else if x.kind = 8 then ({ f with gs := f.gs.map fun _ => .none_ }, 0)
  else (f, 4)
def Frm.nil : Frm := ⟨[], [], 0, [], [], [], [], []⟩
noncomputable def doP (f : Frm) (x : Hap) : Frm × Int :=
  if ckFarm f ≠ 0 then (.nil, ckFarm f) else if (stepP f x).2 ≠ 0 then (.nil, (stepP f x).2) else ((stepP f x).1, 0)
/-- A script: what can't happen is left out. -/
noncomputable def runFrom : Frm → List Hap → Frm × List Int
  | f, [] => (f, [])
  | f, x :: r => let s := stepP f x; let t := runFrom (if s.2 = 0 then s.1 else f) r; (t.1, s.2 :: t.2)
noncomputable def outP (f : Frm) : Prt × Int :=
  if ckFarm f ≠ 0 then (.nil, ckFarm f) else if f.dn.getD (f.pl.length - 1) false = false then (.nil, 11) else (f.hv.getD (f.pl.length - 1) .nil, 0)
theorem stepP_kept (f : Frm) (x : Hap) (h : (stepP f x).2 = 0) : (stepP f x).1.ps = f.ps ∧ (stepP f x).1.pl = f.pl ∧ (stepP f x).1.wk.length = f.wk.length ∧ (stepP f x).1.dn.length = f.dn.length ∧ (stepP f x).1.hv.length = f.hv.length ∧ (stepP f x).1.gs.length = f.gs.length := by
  have hs : ∀ (g : Frm) (m : Msg), (sendP g m).ps = g.ps ∧ (sendP g m).pl = g.pl ∧ (sendP g m).wk = g.wk ∧ (sendP g m).dn = g.dn ∧ (sendP g m).hv = g.hv ∧ (sendP g m).gs = g.gs := fun g m => by
    unfold sendP; split <;> simp
  unfold stepP
  split
  · simp
  split
  · unfold giveP
    split
    · simp [hs]
    · simp
  split
  · unfold finishP
    dsimp only
    repeat' split
    all_goals simp [hs]
  split
  · unfold arriveP
    dsimp only
    repeat' split
    all_goals simp
  split
  · simp
  split
  · split <;> simp [hs]
  split
  · split <;> simp
  split
  · simp
  split
  · simp
  · simp
end Go.Proofs.Ytkfmkemjoddinaa

/- What a farm that is one is like. No program in sight. -/
namespace Go.Proofs.Ytkfmkemjoddinaa

theorem ckFarm_zero {f : Frm} (h : ckFarm f = 0) : ckPlan f.pl f.ps.length = 0 ∧ f.lens = 0 ∧ f.rng = 0 ∧ f.many = 0 ∧ (∀ p ∈ f.ps ++ f.hv, ckPart p = 0) ∧ f.who = 0 ∧ f.grs = 0 ∧ ∀ m ∈ f.nt, ckMsg f.wk.length f.pl.length m = 0 := by
  unfold ckFarm at h
  have hz := firstBad_zero.1 h
  simp only [List.mem_cons, List.not_mem_nil, or_false] at hz
  refine ⟨hz _ (by simp), hz _ (by simp), hz _ (by simp), hz _ (by simp), fun p hp => ?_, hz _ (by simp), hz _ (by simp), fun m hm => ?_⟩
  · exact firstBad_zero.1 (hz (firstBad ((f.ps ++ f.hv).map ckPart)) (by simp)) _ (List.mem_map_of_mem hp)
  · exact firstBad_zero.1 (hz (firstBad (f.nt.map (ckMsg f.wk.length f.pl.length))) (by simp)) _ (List.mem_map_of_mem hm)
theorem ckFarm_intro {f : Frm} (h1 : ckPlan f.pl f.ps.length = 0) (h2 : f.lens = 0) (h3 : f.rng = 0) (h4 : f.many = 0) (h5 : ∀ p ∈ f.ps ++ f.hv, ckPart p = 0) (h6 : f.who = 0) (h7 : f.grs = 0) (h8 : ∀ m ∈ f.nt, ckMsg f.wk.length f.pl.length m = 0) : ckFarm f = 0 := by
  unfold ckFarm
  refine firstBad_zero.2 fun n hn => ?_
  simp only [List.mem_cons, List.not_mem_nil, or_false] at hn
  rcases hn with rfl | rfl | rfl | rfl | rfl | rfl | rfl | rfl
  · exact h1
  · exact h2
  · exact h3
  · exact h4
  · exact firstBad_zero.2 fun n hn => by obtain ⟨p, hp, rfl⟩ := List.mem_map.1 hn; exact h5 p hp
  · exact h6
  · exact h7
  · exact firstBad_zero.2 fun n hn => by obtain ⟨m, hm, rfl⟩ := List.mem_map.1 hn; exact h8 m hm
theorem lens_zero {f : Frm} (h : f.lens = 0) : f.dn.length = f.pl.length ∧ f.hv.length = f.pl.length ∧ f.gs.length = f.pl.length := by
  unfold Frm.lens at h
  split at h
  · cases h
  · omega
theorem rng_zero {f : Frm} (h : f.rng = 0) : 1 ≤ f.wk.length ∧ f.wk.length ≤ 4 ∧ 0 ≤ f.now ∧ f.now ≤ 65536 := by
  unfold Frm.rng at h
  split at h
  · cases h
  · omega
theorem many_zero {f : Frm} (h : f.many = 0) : f.nt.length ≤ 20 := by
  unfold Frm.many at h
  split at h
  · cases h
  · omega
theorem who_zero {f : Frm} (h : f.who = 0) : ∀ k ∈ f.wk, -1 ≤ k ∧ k < f.pl.length := by
  unfold Frm.who at h
  split at h
  · cases h
  · rename_i hn
    rw [Bool.not_eq_true, List.any_eq_false] at hn
    intro k hk
    have := hn k hk
    unfold badW at this
    simp only [Bool.or_eq_true, decide_eq_true_eq] at this
    omega
theorem grs_zero {f : Frm} (h : f.grs = 0) : ∀ g ∈ f.gs, 0 ≤ g.worker ∧ g.worker < f.wk.length ∧ 0 ≤ g.until_ ∧ g.until_ ≤ 65541 := by
  unfold Frm.grs at h
  split at h
  · cases h
  · rename_i hn
    rw [Bool.not_eq_true, List.any_eq_false] at hn
    intro g hg
    have := hn g hg
    unfold Gr.bad at this
    simp only [Bool.or_eq_true, decide_eq_true_eq] at this
    omega
theorem ckMsg_zero {nw n : Nat} {m : Msg} (h : ckMsg nw n m = 0) : (m.kind = 1 ∨ m.kind = 2) ∧ 0 ≤ m.worker ∧ m.worker < nw ∧ 0 ≤ m.n ∧ m.n < n ∧ ckPart m.p = 0 := by
  unfold ckMsg at h
  split at h
  · cases h
  · rename_i hn
    unfold Msg.bad at hn
    simp only [Bool.or_eq_true, decide_eq_true_eq] at hn
    refine ⟨?_, ?_, ?_, ?_, ?_, h⟩ <;> omega
end Go.Proofs.Ytkfmkemjoddinaa
