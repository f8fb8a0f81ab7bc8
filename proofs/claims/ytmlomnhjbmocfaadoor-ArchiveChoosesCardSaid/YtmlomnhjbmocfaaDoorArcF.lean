/- What archive.Choose takes of the closed fact's items. No program in sight. -/
import Derived.Test.YtmlomnhjbmocfaaDoorArcD
import Derived.Test.YtmlomnhjbmocfaaDoorTwoW
set_option linter.all false
namespace Go.Proofs.YtmlomnhjbmocfaaDoor

def takC : Prt := ⟨[⟨2, 1, ⟨#[]⟩, [], 0, []⟩], [⟨⟨#[122]⟩, 1, 0, 0, 0, 0⟩]⟩
def takD : Prt := ⟨[⟨1, 4, ⟨#[103]⟩, [7], 0, [⟨0, 1, ⟨#[119]⟩, 0, 0⟩]⟩], [⟨⟨#[102]⟩, 1, 0, 0, 0, 0⟩]⟩
def takW : Prt := ⟨[⟨4, 2, ⟨#[]⟩, [5], 0, []⟩], [⟨⟨#[119]⟩, 2, 0, 0, 0, 0⟩]⟩
/-- Helps: by the names as they come. -/
def helpsC (first : List ByteArray) (out : List Prt) (p : Prt) : Bool :=
  p.dfs.any (helpD (first ++ out.flatMap fun q => q.frs.flatMap wantedF) (out.flatMap fun q => q.dfs.map Df.name))
theorem helpsC_eq (first : List ByteArray) (out : List Prt) (p : Prt) : helpsB first out p = helpsC first out p := by
  unfold helpsB helpsC
  congr 1
  funext d
  refine helpD_congr (fun x => ?_) (fun x => ?_) d
  · unfold wantS
    simp only [List.mem_append, List.mem_flatMap]
    refine or_congr Iff.rfl (exists_congr fun q => and_congr Iff.rfl ?_)
    unfold wantedP
    rw [setS_mem, List.mem_flatMap]
  · unfold haveS
    simp only [List.mem_flatMap]
    refine exists_congr fun q => and_congr Iff.rfl ?_
    unfold definedP
    exact setS_mem
theorem tak_ck : ckItems [⟨false, [twoA]⟩, ⟨true, [takW, takC, takD]⟩] = 0 := by decide +kernel
theorem tak1 : helpsB [] [twoA] takW = false := by rw [helpsC_eq]; decide +kernel
theorem tak2 : helpsB [] [twoA] takC = false := by rw [helpsC_eq]; decide +kernel
theorem tak3 : helpsB [] [twoA] takD = true := by rw [helpsC_eq]; decide +kernel
theorem tak4 : helpsB [] [twoA, takD] takW = true := by rw [helpsC_eq]; decide +kernel
theorem tak5 : helpsB [] [twoA, takD, takW] takC = false := by rw [helpsC_eq]; decide +kernel
theorem tak_all : chooseP [⟨false, [twoA]⟩, ⟨true, [takW, takC, takD]⟩] [] = ([twoA, takD, takW], 0) := by
  have e : chosenP [⟨false, [twoA]⟩, ⟨true, [takW, takC, takD]⟩] [] = [twoA, takD, takW] := by
    have p1 : passTo [] [takW, takC, takD] [false, false, false] [twoA] 3 = ([false, false, true], [twoA, takD], true) := by
      have a0 : passStep [] [takW, takC, takD] ([false, false, false], [twoA], false) 0 = ([false, false, false], [twoA], false) := passStep_leave (p := takW) rfl (.inr tak1)
      have a1 : passStep [] [takW, takC, takD] ([false, false, false], [twoA], false) 1 = ([false, false, false], [twoA], false) := passStep_leave (p := takC) rfl (.inr tak2)
      have a2 : passStep [] [takW, takC, takD] ([false, false, false], [twoA], false) 2 = ([false, false, true], [twoA, takD], true) := passStep_take (p := takD) rfl rfl tak3
      rw [passTo_succ, passTo_succ, passTo_succ, passTo_zero, a0, a1, a2]
    have p2 : passTo [] [takW, takC, takD] [false, false, true] [twoA, takD] 3 = ([true, false, true], [twoA, takD, takW], true) := by
      have a0 : passStep [] [takW, takC, takD] ([false, false, true], [twoA, takD], false) 0 = ([true, false, true], [twoA, takD, takW], true) := passStep_take (p := takW) rfl rfl tak4
      have a1 : passStep [] [takW, takC, takD] ([true, false, true], [twoA, takD, takW], true) 1 = ([true, false, true], [twoA, takD, takW], true) := passStep_leave (p := takC) rfl (.inr tak5)
      have a2 : passStep [] [takW, takC, takD] ([true, false, true], [twoA, takD, takW], true) 2 = ([true, false, true], [twoA, takD, takW], true) := passStep_leave (p := takD) rfl (.inl rfl)
      rw [passTo_succ, passTo_succ, passTo_succ, passTo_zero, a0, a1, a2]
    have p3 : passTo [] [takW, takC, takD] [true, false, true] [twoA, takD, takW] 3 = ([true, false, true], [twoA, takD, takW], false) := by
      have a0 : passStep [] [takW, takC, takD] ([true, false, true], [twoA, takD, takW], false) 0 = ([true, false, true], [twoA, takD, takW], false) := passStep_leave (p := takW) rfl (.inl rfl)
      have a1 : passStep [] [takW, takC, takD] ([true, false, true], [twoA, takD, takW], false) 1 = ([true, false, true], [twoA, takD, takW], false) := passStep_leave (p := takC) rfl (.inr tak5)
      have a2 : passStep [] [takW, takC, takD] ([true, false, true], [twoA, takD, takW], false) 2 = ([true, false, true], [twoA, takD, takW], false) := passStep_leave (p := takD) rfl (.inl rfl)
      rw [passTo_succ, passTo_succ, passTo_succ, passTo_zero, a0, a1, a2]
    show itemStep [] (itemStep [] [] ⟨false, [twoA]⟩) ⟨true, [takW, takC, takD]⟩ = _
    have s1 : itemStep [] [] ⟨false, [twoA]⟩ = [twoA] := rfl
    rw [s1]
    show archN [] [takW, takC, takD] 4 [false, false, false] [twoA] = _
    have l3 : [takW, takC, takD].length = 3 := rfl
    rw [archN, l3, p1, if_pos rfl, archN, l3, p2, if_pos rfl, archN, l3, p3, if_neg (by simp)]
  have h0 : chooseE [⟨false, [twoA]⟩, ⟨true, [takW, takC, takD]⟩] [] = 0 := by
    unfold chooseE
    rw [tak_ck]
    rfl
  unfold chooseP
  rw [h0, e]
  rfl
end Go.Proofs.YtmlomnhjbmocfaaDoor
