/-
  The plain laws of values with times: lists.
-/
import Derived.Test.YtgefhejpaojhbaaPlain
import Derived.Test.YtgefhejpaojhbaaPr9
namespace Go.Proofs.Ytgefhejpaojhbaa.Plain
open Go.RowKit Go.Proofs.Ytgefhejpaojhbaa.Pr Go.Proofs.YtgefhejpaojhbaaW.PrintWords Go.Proofs.YtgefhejpaojhbaaW.PrintLast Go.Proofs.YtgefhejpaojhbaaW.PrintMore
def cv (x : S49) : S46 := ⟨x.f0, (⟨x.f1.f0, x.f1.f1⟩ : S28), x.f2⟩
theorem rd49 (l : List S49) (i : Nat) (h : i < l.length) : rd_T49 l (i : Int) = l[i] := by
  unfold rd_T49
  simp [List.getD, h]
theorem rd46 (l : List S46) (i : Nat) (h : i < l.length) : rd_T46 l (i : Int) = l[i] := by
  unfold rd_T46
  simp [List.getD, h]
theorem rd46z (l : List S46) (h : 0 < l.length) : rd_T46 l 0 = l[0] := rd46 l 0 h
theorem owns_loop (l : List S49) (hl : l.length ≤ 60) : ∀ (n i k : Nat) (acc : List S46), i + n = l.length → acc.length ≤ i → n < k → tricklelaw41_owns.l0 k acc l (l.length : Int) (i : Int) = some (acc ++ (l.drop i).map cv) := by
  intro n
  induction n with
  | zero =>
    intro i k acc hi ha hk
    obtain ⟨k, rfl⟩ : ∃ k', k = k' + 1 := ⟨k - 1, by omega⟩
    simp only [tricklelaw41_owns.l0]
    rw [if_neg (by omega), List.drop_eq_nil_of_le (by omega)]
    simp
  | succ n ih =>
    intro i k acc hi ha hk
    obtain ⟨k, rfl⟩ : ∃ k', k = k' + 1 := ⟨k - 1, by omega⟩
    simp only [tricklelaw41_owns.l0]
    rw [if_pos (by omega), if_pos (by omega), if_pos (by omega), rd49 l i (by omega)]
    unfold tricklelaw41_own.f
    simp -implicitDefEqProofs only [Option.bind_some]
    rw [if_pos (by omega), w64 ((i : Int) + 1) (by omega) (by omega)]
    have h := ih (i + 1) k (acc ++ [cv l[i]]) (by omega) (by simp; omega) (by omega)
    rw [List.drop_eq_getElem_cons (show i < l.length by omega), List.map_cons]
    rw [List.append_assoc] at h
    exact h
theorem owns_tells (l : List S49) (hl : l.length ≤ 60) (k : Nat) (hk : 60 < k) : tricklelaw41_owns.f k l = some (l.map cv) := by
  unfold tricklelaw41_owns.f
  have h := owns_loop l hl l.length 0 k [] (by omega) (by simp) (by omega)
  simpa using h
end Go.Proofs.Ytgefhejpaojhbaa.Plain
