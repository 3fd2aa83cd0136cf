-- Written by a program of this session for this claim.
import Derived.Test.YtjblfldgeemciaaPq0
import Derived.Test.YtjblfldgeemciaaPq1
namespace Go.Proofs.Ytjblfldgeemciaa.Pq
open Go.RowKit Go.Proofs.YtjblfldgeemciaaW.PrintWords Go.Proofs.YtjblfldgeemciaaW.PrintLast Go.Proofs.YtjblfldgeemciaaW.PrintMore
attribute [local go_sem] max2_int min2_int max_two min_two max_three min_three max_four min_four   -- for this text's walks alone
set_option linter.unusedVariables false
set_option linter.unusedSimpArgs false

/-! ### trickleref45_Poll: function 21 -/
mutual
def trickleref45_Poll.l0 : Nat → Int → List Int → Int → List Int → List Int → Int → Int → Int → Int → List Int → List Bool → Int → Int → Int → List Int → List Bool → Option (Int × Int × Int × List Int × List Bool × List Int × List Int)
  | 0, _, _, _, _, _, _, _, _, _, _, _, _, _, _, _, _ => none
  | k + 1, x1, x2, x3, x11, x12, x14, x108000, x108001, x108002, x108003, x108004, x116000, x116001, x116002, x116003, x116004 => if x14 < (wrap64 (x108002 + (x108004.length : Int))) then (trickleref45_Poll.j1 k x1 x2 x3 x11 x12 x14 true x108000 x108001 x108002 x108003 x108004 x116000 x116001 x116002 x116003 x116004) else (trickleref45_Poll.j1 k x1 x2 x3 x11 x12 x14 (decide (x14 < (wrap64 (x1 + x108000)))) x108000 x108001 x108002 x108003 x108004 x116000 x116001 x116002 x116003 x116004)
def trickleref45_Poll.j1 : Nat → Int → List Int → Int → List Int → List Int → Int → Bool → Int → Int → Int → List Int → List Bool → Int → Int → Int → List Int → List Bool → Option (Int × Int × Int × List Int × List Bool × List Int × List Int)
  | 0, _, _, _, _, _, _, _, _, _, _, _, _, _, _, _, _, _ => none
  | k + 1, x1, x2, x3, x11, x12, x14, x47, x108000, x108001, x108002, x108003, x108004, x116000, x116001, x116002, x116003, x116004 => if x47 = true then (if (wrap64 (x14 - x1)) > 64 then (some (x116000, x116001, x116002, x116003, x116004, x11, x12)) else ((trickleref45_entry.f k x108000 x108001 x108002 x108003 x108004 x14).bind fun bt116 => (if (wrap64 (x14 - x1)) < x108000 then (if (wrap64 (x14 - x1)) < (x2.length : Int) then (if x14 ≤ 2147483647 then ((trickleref45_Due.f k x108000 x108001 x108002 x108003 x108004 x14 x3).bind fun t118 => (trickleref45_Poll.j2 k x1 x2 x3 x11 x12 x14 bt116.1 bt116.2 (wrap64 (x14 - x1)) t118 x108000 x108001 x108002 x108003 x108004 x116000 x116001 x116002 x116003 x116004)) else (trickleref45_Poll.j2 k x1 x2 x3 x11 x12 x14 bt116.1 bt116.2 (wrap64 (x14 - x1)) false x108000 x108001 x108002 x108003 x108004 x116000 x116001 x116002 x116003 x116004)) else (trickleref45_Poll.j2 k x1 x2 x3 x11 x12 x14 bt116.1 bt116.2 (wrap64 (x14 - x1)) false x108000 x108001 x108002 x108003 x108004 x116000 x116001 x116002 x116003 x116004)) else (trickleref45_Poll.j2 k x1 x2 x3 x11 x12 x14 bt116.1 bt116.2 (wrap64 (x14 - x1)) false x108000 x108001 x108002 x108003 x108004 x116000 x116001 x116002 x116003 x116004)))) else (some (x116000, x116001, x116002, x116003, x116004, x11, x12))
def trickleref45_Poll.j2 : Nat → Int → List Int → Int → List Int → List Int → Int → Int → Bool → Int → Bool → Int → Int → Int → List Int → List Bool → Int → Int → Int → List Int → List Bool → Option (Int × Int × Int × List Int × List Bool × List Int × List Int)
  | 0, _, _, _, _, _, _, _, _, _, _, _, _, _, _, _, _, _, _, _, _ => none
  | k + 1, x1, x2, x3, x11, x12, x14, x15, x16, x17, x82, x108000, x108001, x108002, x108003, x108004, x116000, x116001, x116002, x116003, x116004 => if x82 = true then ((some (([x14] : List Int) : List Int)).bind fun y119 => (if x11.length + y119.length < 17592186044416 then (if 0 ≤ x17 then (if x17 < (x2.length : Int) then ((some (([rd x2 x17] : List Int) : List Int)).bind fun y126 => (if x12.length + y126.length < 70368744177664 then ((some (([x3] : List Int) : List Int)).bind fun y132 => (if x116003.length + y132.length < 17592186044416 then ((some (([true] : List Bool) : List Bool)).bind fun y138 => (if x116004.length + y138.length < 140737488355328 then (trickleref45_Poll.l0 k x1 x2 x3 (x11 ++ y119) (x12 ++ y126) (wrap64 (x14 + 1)) x108000 x108001 x108002 x108003 x108004 x116000 x116001 x116002 (x116003 ++ y132) (x116004 ++ y138)) else (none))) else (none))) else (none))) else (none)) else (none)) else (none))) else ((some (([x15] : List Int) : List Int)).bind fun y144 => (if x116003.length + y144.length < 17592186044416 then ((some (([x16] : List Bool) : List Bool)).bind fun y150 => (if x116004.length + y150.length < 140737488355328 then (trickleref45_Poll.l0 k x1 x2 x3 x11 x12 (wrap64 (x14 + 1)) x108000 x108001 x108002 x108003 x108004 x116000 x116001 x116002 (x116003 ++ y144) (x116004 ++ y150)) else (none))) else (none)))
end
def trickleref45_Poll.f (k : Nat) (a0_0 : Int) (a0_1 : Int) (a0_2 : Int) (l0_3 : List Int) (l0_4 : List Bool) (a1 : Int) (l2 : List Int) (a3 : Int) : Option (Int × Int × Int × List Int × List Bool × List Int × List Int) := if a1 < 0 then (none) else (trickleref45_Poll.l0 k a1 l2 a3 (([] : List Int)) (([] : List Int)) a1 a0_0 a0_1 a0_2 l0_3 l0_4 a0_0 a0_1 a1 ([] : List Int) ([] : List Bool))
theorem trickleref45_Poll.mono_l : ∀ k, (∀ y0 y1 y2 y3 y4 y5 y6 y7 y8 y9 y10 y11 y12 y13 y14 y15, LeO (trickleref45_Poll.l0 k y0 y1 y2 y3 y4 y5 y6 y7 y8 y9 y10 y11 y12 y13 y14 y15) (trickleref45_Poll.l0 (k + 1) y0 y1 y2 y3 y4 y5 y6 y7 y8 y9 y10 y11 y12 y13 y14 y15)) ∧ (∀ y0 y1 y2 y3 y4 y5 y6 y7 y8 y9 y10 y11 y12 y13 y14 y15 y16, LeO (trickleref45_Poll.j1 k y0 y1 y2 y3 y4 y5 y6 y7 y8 y9 y10 y11 y12 y13 y14 y15 y16) (trickleref45_Poll.j1 (k + 1) y0 y1 y2 y3 y4 y5 y6 y7 y8 y9 y10 y11 y12 y13 y14 y15 y16)) ∧ (∀ y0 y1 y2 y3 y4 y5 y6 y7 y8 y9 y10 y11 y12 y13 y14 y15 y16 y17 y18 y19, LeO (trickleref45_Poll.j2 k y0 y1 y2 y3 y4 y5 y6 y7 y8 y9 y10 y11 y12 y13 y14 y15 y16 y17 y18 y19) (trickleref45_Poll.j2 (k + 1) y0 y1 y2 y3 y4 y5 y6 y7 y8 y9 y10 y11 y12 y13 y14 y15 y16 y17 y18 y19))
  | 0 => ⟨fun _ _ _ _ _ _ _ _ _ _ _ _ _ _ _ _ r h => by simp [trickleref45_Poll.l0] at h, fun _ _ _ _ _ _ _ _ _ _ _ _ _ _ _ _ _ r h => by simp [trickleref45_Poll.j1] at h, fun _ _ _ _ _ _ _ _ _ _ _ _ _ _ _ _ _ _ _ _ r h => by simp [trickleref45_Poll.j2] at h⟩
  | k + 1 => by
    obtain ⟨ih0, ih1, ih2⟩ := trickleref45_Poll.mono_l k
    refine ⟨?_, ?_, ?_⟩
    · intro y0 y1 y2 y3 y4 y5 y6 y7 y8 y9 y10 y11 y12 y13 y14 y15
      unfold trickleref45_Poll.l0
      repeat' first
      | (with_reducible exact ih0 _ _ _ _ _ _ _ _ _ _ _ _ _ _ _ _)
      | (with_reducible exact ih1 _ _ _ _ _ _ _ _ _ _ _ _ _ _ _ _ _)
      | (with_reducible exact ih2 _ _ _ _ _ _ _ _ _ _ _ _ _ _ _ _ _ _ _ _)
      | (with_reducible exact trickleref45_Due.mono _ _ _ _ _ _ _ _)
      | (with_reducible exact trickleref45_entry.mono _ _ _ _ _ _ _)
      | (with_reducible exact LeO.refl _)
      | (with_reducible exact LeO.none _)
      | (with_reducible refine LeO.ite ?_ ?_)
      | (with_reducible refine LeO.bind ?_ (fun _ => ?_))
      | exact ih0 _ _ _ _ _ _ _ _ _ _ _ _ _ _ _ _
      | exact ih1 _ _ _ _ _ _ _ _ _ _ _ _ _ _ _ _ _
      | exact ih2 _ _ _ _ _ _ _ _ _ _ _ _ _ _ _ _ _ _ _ _
      | exact trickleref45_Due.mono _ _ _ _ _ _ _ _
      | exact trickleref45_entry.mono _ _ _ _ _ _ _
      | exact LeO.none _
      | refine LeO.ite ?_ ?_
      | refine LeO.bind ?_ (fun _ => ?_)
    · intro y0 y1 y2 y3 y4 y5 y6 y7 y8 y9 y10 y11 y12 y13 y14 y15 y16
      unfold trickleref45_Poll.j1
      repeat' first
      | (with_reducible exact ih0 _ _ _ _ _ _ _ _ _ _ _ _ _ _ _ _)
      | (with_reducible exact ih1 _ _ _ _ _ _ _ _ _ _ _ _ _ _ _ _ _)
      | (with_reducible exact ih2 _ _ _ _ _ _ _ _ _ _ _ _ _ _ _ _ _ _ _ _)
      | (with_reducible exact trickleref45_Due.mono _ _ _ _ _ _ _ _)
      | (with_reducible exact trickleref45_entry.mono _ _ _ _ _ _ _)
      | (with_reducible exact LeO.refl _)
      | (with_reducible exact LeO.none _)
      | (with_reducible refine LeO.ite ?_ ?_)
      | (with_reducible refine LeO.bind ?_ (fun _ => ?_))
      | exact ih0 _ _ _ _ _ _ _ _ _ _ _ _ _ _ _ _
      | exact ih1 _ _ _ _ _ _ _ _ _ _ _ _ _ _ _ _ _
      | exact ih2 _ _ _ _ _ _ _ _ _ _ _ _ _ _ _ _ _ _ _ _
      | exact trickleref45_Due.mono _ _ _ _ _ _ _ _
      | exact trickleref45_entry.mono _ _ _ _ _ _ _
      | exact LeO.none _
      | refine LeO.ite ?_ ?_
      | refine LeO.bind ?_ (fun _ => ?_)
    · intro y0 y1 y2 y3 y4 y5 y6 y7 y8 y9 y10 y11 y12 y13 y14 y15 y16 y17 y18 y19
      unfold trickleref45_Poll.j2
      repeat' first
      | (with_reducible exact ih0 _ _ _ _ _ _ _ _ _ _ _ _ _ _ _ _)
      | (with_reducible exact ih1 _ _ _ _ _ _ _ _ _ _ _ _ _ _ _ _ _)
      | (with_reducible exact ih2 _ _ _ _ _ _ _ _ _ _ _ _ _ _ _ _ _ _ _ _)
      | (with_reducible exact trickleref45_Due.mono _ _ _ _ _ _ _ _)
      | (with_reducible exact trickleref45_entry.mono _ _ _ _ _ _ _)
      | (with_reducible exact LeO.refl _)
      | (with_reducible exact LeO.none _)
      | (with_reducible refine LeO.ite ?_ ?_)
      | (with_reducible refine LeO.bind ?_ (fun _ => ?_))
      | exact ih0 _ _ _ _ _ _ _ _ _ _ _ _ _ _ _ _
      | exact ih1 _ _ _ _ _ _ _ _ _ _ _ _ _ _ _ _ _
      | exact ih2 _ _ _ _ _ _ _ _ _ _ _ _ _ _ _ _ _ _ _ _
      | exact trickleref45_Due.mono _ _ _ _ _ _ _ _
      | exact trickleref45_entry.mono _ _ _ _ _ _ _
      | exact LeO.none _
      | refine LeO.ite ?_ ?_
      | refine LeO.bind ?_ (fun _ => ?_)
theorem trickleref45_Poll.mono : ∀ a0 a1 a2 a3 a4 a5 a6 a7 k, LeO (trickleref45_Poll.f k a0 a1 a2 a3 a4 a5 a6 a7) (trickleref45_Poll.f (k + 1) a0 a1 a2 a3 a4 a5 a6 a7) := by
  intro a0 a1 a2 a3 a4 a5 a6 a7 k
  obtain ⟨ih0, ih1, ih2⟩ := trickleref45_Poll.mono_l k
  unfold trickleref45_Poll.f
  repeat' first
      | (with_reducible exact ih0 _ _ _ _ _ _ _ _ _ _ _ _ _ _ _ _)
      | (with_reducible exact ih1 _ _ _ _ _ _ _ _ _ _ _ _ _ _ _ _ _)
      | (with_reducible exact ih2 _ _ _ _ _ _ _ _ _ _ _ _ _ _ _ _ _ _ _ _)
      | (with_reducible exact trickleref45_Due.mono _ _ _ _ _ _ _ _)
      | (with_reducible exact trickleref45_entry.mono _ _ _ _ _ _ _)
      | (with_reducible exact LeO.refl _)
      | (with_reducible exact LeO.none _)
      | (with_reducible refine LeO.ite ?_ ?_)
      | (with_reducible refine LeO.bind ?_ (fun _ => ?_))
      | exact ih0 _ _ _ _ _ _ _ _ _ _ _ _ _ _ _ _
      | exact ih1 _ _ _ _ _ _ _ _ _ _ _ _ _ _ _ _ _
      | exact ih2 _ _ _ _ _ _ _ _ _ _ _ _ _ _ _ _ _ _ _ _
      | exact trickleref45_Due.mono _ _ _ _ _ _ _ _
      | exact trickleref45_entry.mono _ _ _ _ _ _ _
      | exact LeO.none _
      | refine LeO.ite ?_ ?_
      | refine LeO.bind ?_ (fun _ => ?_)
def trickleref45_Poll.T12 : Bool × List (List Nat × List Nat) := (true, [([], []), ([], []), ([1], [1]), ([0, 2], [0, 2]), ([], []), ([], []), ([], []), ([5, 6], [5, 6]), ([7], [7]), ([8], [8]), ([4, 9, 3], [4, 9]), ([3, 10, 0, 1, 2, 3], [0, 3]), ([10, 11, 0, 1, 2, 3, 4, 5, 6, 7, 8, 9, 10, 11], [4, 10])])
def trickleref45_Poll.B12 : List Nat := [0, 0, 2, 7, 0, 0, 0, 96, 224, 480, 1023, 2047, 4095]
theorem trickleref45_Poll.tab12 : rtab .any (opsOf Try.f21 12) = trickleref45_Poll.T12 := by kernel_rfl
theorem trickleref45_Poll.bits12 : waitsOk trickleref45_Poll.T12.2 trickleref45_Poll.B12 = true := by kernel_rfl
def trickleref45_Poll.T14 : Bool × List (List Nat × List Nat) := (true, [([], []), ([0], [0]), ([], []), ([2], [2]), ([1, 3], [1, 3]), ([], []), ([5], [5]), ([], []), ([7], [7]), ([6, 8, 4], [6, 8]), ([0, 1, 2, 3, 4, 5, 6], []), ([10, 4, 9, 0, 1, 2, 3, 4, 5, 6], [4, 10]), ([0, 1, 2, 3, 4, 5, 6, 7, 8, 9, 10, 11], []), ([12, 9, 11, 0, 1, 2, 3, 4, 5, 6, 7, 8, 9, 10, 11], [9, 12])])
def trickleref45_Poll.B14 : List Nat := [0, 1, 0, 4, 15, 0, 32, 0, 128, 511, 127, 2047, 4095, 8191]
theorem trickleref45_Poll.tab14 : rtab .any (opsOf Try.f21 14) = trickleref45_Poll.T14 := by kernel_rfl
theorem trickleref45_Poll.bits14 : waitsOk trickleref45_Poll.T14.2 trickleref45_Poll.B14 = true := by kernel_rfl

end Go.Proofs.Ytjblfldgeemciaa.Pq
