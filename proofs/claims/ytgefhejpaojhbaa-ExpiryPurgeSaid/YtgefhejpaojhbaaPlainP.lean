/-
  The plain laws of values with times: lists.
-/
import Derived.Test.YtgefhejpaojhbaaPlain2
import Derived.Test.YtgefhejpaojhbaaPr10
import Derived.Test.YtgefhejpaojhbaaPr11
namespace Go.Proofs.Ytgefhejpaojhbaa.Plain
open Go.RowKit Go.Proofs.Ytgefhejpaojhbaa.Pr Go.Proofs.YtgefhejpaojhbaaW.PrintWords Go.Proofs.YtgefhejpaojhbaaW.PrintLast Go.Proofs.YtgefhejpaojhbaaW.PrintMore
/-! ### Purge -/
def U6 (nlo nhi nep t n : Int) (x : S46) : Bool := usb x.f1.f0 x.f1.f1 x.f2 nlo nhi nep t n
def U9 (nlo nhi nep t n : Int) (x : S49) : Bool := usb x.f1.f0 x.f1.f1 x.f2 nlo nhi nep t n
theorem purge_loop (l : List S46) (hl : l.length ≤ 60) (nlo nhi nep t n : Int) : ∀ (m i k : Nat) (acc : List S46), i + m = l.length → acc.length ≤ i → m < k → expiry_Purge.l0 k l t n acc l (l.length : Int) (i : Int) nlo nhi nep = some (acc ++ (l.drop i).filter (U6 nlo nhi nep t n), (l.length : Int) - ((acc ++ (l.drop i).filter (U6 nlo nhi nep t n)).length : Int)) := by
  intro m
  induction m with
  | zero =>
    intro i k acc hi ha hk
    obtain ⟨k, rfl⟩ : ∃ k', k = k' + 1 := ⟨k - 1, by omega⟩
    simp only [expiry_Purge.l0]
    rw [if_neg (by omega), List.drop_eq_nil_of_le (by omega), w64 ((l.length : Int) - (acc.length : Int)) (by omega) (by omega)]
    simp
  | succ m ih =>
    intro i k acc hi ha hk
    obtain ⟨k, rfl⟩ : ∃ k', k = k' + 1 := ⟨k - 1, by omega⟩
    simp only [expiry_Purge.l0]
    rw [if_pos (by omega), if_pos (by omega), if_pos (by omega), rd46 l i (by omega), usable_tells]
    simp -implicitDefEqProofs only [Option.bind_some]
    rw [w64 ((i : Int) + 1) (by omega) (by omega), List.drop_eq_getElem_cons (show i < l.length by omega)]
    cases hu : usb l[i].f1.f0 l[i].f1.f1 l[i].f2 nlo nhi nep t n
    · rw [if_neg (by simp), List.filter_cons_of_neg (by unfold U6; rw [hu]; simp)]
      exact ih (i + 1) k acc (by omega) (by omega) (by omega)
    · rw [if_pos rfl, if_pos (by omega), List.filter_cons_of_pos (by unfold U6; rw [hu])]
      have h := ih (i + 1) k (acc ++ [l[i]]) (by omega) (by simp; omega) (by omega)
      rw [List.append_assoc] at h
      exact h
theorem purge9_loop (l : List S49) (hl : l.length ≤ 60) (nlo nhi nep t n : Int) : ∀ (m i k : Nat) (acc : List S49), i + m = l.length → acc.length ≤ i → m < k → trickleref41_Purge.l0 k l t n acc (i : Int) nlo nhi nep = some (acc ++ (l.drop i).filter (U9 nlo nhi nep t n), (l.length : Int) - ((acc ++ (l.drop i).filter (U9 nlo nhi nep t n)).length : Int)) := by
  intro m
  induction m with
  | zero =>
    intro i k acc hi ha hk
    obtain ⟨k, rfl⟩ : ∃ k', k = k' + 1 := ⟨k - 1, by omega⟩
    simp only [trickleref41_Purge.l0]
    rw [if_neg (by omega), List.drop_eq_nil_of_le (by omega), w64 ((l.length : Int) - (acc.length : Int)) (by omega) (by omega)]
    simp
  | succ m ih =>
    intro i k acc hi ha hk
    obtain ⟨k, rfl⟩ : ∃ k', k = k' + 1 := ⟨k - 1, by omega⟩
    simp only [trickleref41_Purge.l0]
    rw [if_pos (by omega), if_pos (by omega), rd49 l i (by omega), usable41_tells]
    simp -implicitDefEqProofs only [Option.bind_some]
    rw [w64 ((i : Int) + 1) (by omega) (by omega), List.drop_eq_getElem_cons (show i < l.length by omega)]
    cases hu : usb l[i].f1.f0 l[i].f1.f1 l[i].f2 nlo nhi nep t n
    · rw [if_neg (by simp), List.filter_cons_of_neg (by unfold U9; rw [hu]; simp)]
      exact ih (i + 1) k acc (by omega) (by omega) (by omega)
    · rw [if_pos rfl, if_pos (by omega), List.filter_cons_of_pos (by unfold U9; rw [hu])]
      have h := ih (i + 1) k (acc ++ [l[i]]) (by omega) (by simp; omega) (by omega)
      rw [List.append_assoc] at h
      exact h
theorem purge_same (l : List S49) (nlo nhi nep t n : Int) : (l.map cv).filter (U6 nlo nhi nep t n) = (l.filter (U9 nlo nhi nep t n)).map cv := by
  rw [List.filter_map]
  rfl
theorem cmp_loop (W : List S49) (hl : W.length ≤ 60) : ∀ (m i k : Nat), i + m = W.length → m < k → tricklelaw41_ExpiryPurge.l0 k (W.map cv) W ((W.map cv).length : Int) (i : Int) = some true := by
  intro m
  induction m with
  | zero =>
    intro i k hi hk
    obtain ⟨k, rfl⟩ : ∃ k', k = k' + 1 := ⟨k - 1, by omega⟩
    simp only [tricklelaw41_ExpiryPurge.l0]
    rw [if_neg (by rw [List.length_map]; omega)]
  | succ m ih =>
    intro i k hi hk
    obtain ⟨k, rfl⟩ : ∃ k', k = k' + 1 := ⟨k - 1, by omega⟩
    simp only [tricklelaw41_ExpiryPurge.l0]
    have hlm : (W.map cv).length = W.length := List.length_map ..
    rw [if_pos (by omega), if_pos (by omega), if_pos (by omega), if_pos (by omega), rd49 W i (by omega), rd46 (W.map cv) i (by omega)]
    unfold tricklelaw41_own.f
    simp -implicitDefEqProofs only [Option.bind_some]
    rw [w64 ((i : Int) + 1) (by omega) (by omega)]
    have e : (W.map cv)[i] = cv W[i] := by simp
    rw [e, if_neg (by simp [cv])]
    exact ih (i + 1) k (by omega) (by omega)
theorem law_purge (l : List S49) (nlo nhi nep t n : Int) : tricklelaw41_ExpiryPurge.f 70 l nlo nhi nep t n = some true := by
  unfold tricklelaw41_ExpiryPurge.f tricklelaw41_examples.f
  simp -implicitDefEqProofs only [Option.bind_some, if_true]
  show tricklelaw41_ExpiryPurge.j0 (69 + 1) l _ nlo nhi nep t n = some true
  simp only [tricklelaw41_ExpiryPurge.j0]
  by_cases hl : (l.length : Int) > 60
  · rw [decide_eq_true hl, if_pos rfl]
    rfl
  · rw [decide_eq_false hl, if_neg (by simp), owns_tells l (by omega) 69 (by omega)]
    unfold tricklelaw41_now.f
    simp -implicitDefEqProofs only [Option.bind_some]
    have h1 : expiry_Purge.f 69 (l.map cv) nlo nhi nep t n = some ((l.map cv).filter (U6 nlo nhi nep t n), (l.length : Int) - (((l.map cv).filter (U6 nlo nhi nep t n)).length : Int)) := by
      unfold expiry_Purge.f
      have h := purge_loop (l.map cv) (by simp; omega) nlo nhi nep t n (l.map cv).length 0 69 [] (by omega) (by simp) (by simp; omega)
      simpa using h
    have h2 : trickleref41_Purge.f 69 l nlo nhi nep t n = some (l.filter (U9 nlo nhi nep t n), (l.length : Int) - ((l.filter (U9 nlo nhi nep t n)).length : Int)) := by
      unfold trickleref41_Purge.f
      have h := purge9_loop l (by omega) nlo nhi nep t n l.length 0 69 [] (by omega) (by simp) (by omega)
      simpa using h
    rw [h1, h2, purge_same]
    simp -implicitDefEqProofs only [Option.bind_some]
    have hf : (l.filter (U9 nlo nhi nep t n)).length ≤ l.length := List.length_filter_le ..
    generalize l.filter (U9 nlo nhi nep t n) = W at *
    rw [List.length_map, if_pos rfl, bne_self_eq_false]
    show tricklelaw41_ExpiryPurge.j1 (68 + 1) _ _ _ = _
    simp only [tricklelaw41_ExpiryPurge.j1]
    rw [if_neg (by simp)]
    exact cmp_loop W (by omega) W.length 0 68 (by omega) (by omega)
end Go.Proofs.Ytgefhejpaojhbaa.Plain
