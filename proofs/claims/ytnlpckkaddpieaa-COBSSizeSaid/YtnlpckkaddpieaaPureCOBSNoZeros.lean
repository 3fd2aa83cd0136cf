/-
  For every slice of bytes, of at most 1200 bytes, the encoding holds exactly one zero byte, at its end, and is not longer than Size: the pure statement of the law COBSNoZeros.
  Conditions: none beyond the statement's own.
-/
import Derived.Test.YtnlpckkaddpieaaPr4
import Derived.Test.YtnlpckkaddpieaaDec
namespace Go.Proofs.Ytnlpckkaddpieaa.Pure
open Go.RowKit Go.Proofs.Ytnlpckkaddpieaa.Pr Go.Proofs.Ytnlpckkaddpieaa.Plain Go.Proofs.YtnlpckkaddpieaaW.PrintWords Go.Proofs.YtnlpckkaddpieaaW.PrintLast Go.Proofs.YtnlpckkaddpieaaW.PrintMore
theorem size_tells (n : Nat) (h : n ≤ 1099511627776) : cobs_Size.f (n : Int) = some (size n : Int) := by
  unfold cobs_Size.f size
  have e1 : Int.tmod (n : Int) 254 = ((n % 254 : Nat) : Int) := by rw [Int.tmod_eq_emod_of_nonneg (by omega)]; omega
  have e2 : Int.tdiv (n : Int) 254 = ((n / 254 : Nat) : Int) := by rw [Int.tdiv_eq_ediv_of_nonneg (by omega)]; omega
  rw [e1, e2, if_neg (by omega)]
  by_cases h0 : n = 0
  · subst h0
    rfl
  · rw [if_neg (by omega), if_neg h0]
    by_cases h1 : n % 254 = 0
    · rw [if_neg (by omega), w64 ((n : Int) + 1) ((n + 1 : Nat) : Int) (by omega) (by omega) (by omega), w64 ((n / 254 : Nat) : Int) ((n / 254 : Nat) : Int) rfl (by omega) (by omega), w64 (((n + 1 : Nat) : Int) + ((n / 254 : Nat) : Int)) ((n + 1 + (n + 253) / 254 : Nat) : Int) (by omega) (by omega) (by omega)]
    · rw [if_pos (by omega), w64 ((n : Int) + 1) ((n + 1 : Nat) : Int) (by omega) (by omega) (by omega), w64 ((n / 254 : Nat) : Int) ((n / 254 : Nat) : Int) rfl (by omega) (by omega), w64 (((n / 254 : Nat) : Int) + 1) ((n / 254 + 1 : Nat) : Int) (by omega) (by omega) (by omega), w64 (((n + 1 : Nat) : Int) + ((n / 254 + 1 : Nat) : Int)) ((n + 1 + (n + 253) / 254 : Nat) : Int) (by omega) (by omega) (by omega)]
theorem nz_l0 (g x : List Int) (hx : x = g ++ [0]) (hg : ∀ y ∈ g, y ≠ 0) (hl : x.length < 1000000) (h2 : 2 ≤ x.length) (d : Nat) : ∀ (i k : Nat), i + d = x.length → d < k → tricklelaw03_COBSNoZeros.l0 k x x (x.length : Int) (i : Int) = some true := by
  have hgl : x.length = g.length + 1 := by rw [hx]; simp
  induction d with
  | zero =>
    intro i k hi hk
    obtain ⟨k, rfl⟩ : ∃ m, k = m + 1 := ⟨k - 1, by omega⟩
    simp only [tricklelaw03_COBSNoZeros.l0]
    rw [if_neg (by omega), decide_eq_true (by omega)]
  | succ d ih =>
    intro i k hi hk
    obtain ⟨k, rfl⟩ : ∃ m, k = m + 1 := ⟨k - 1, by omega⟩
    simp only [tricklelaw03_COBSNoZeros.l0]
    rw [if_pos (by omega), if_pos (by omega), if_pos (by omega), w64_pred x g.length hgl (by omega)]
    have hrd : rd x (i : Int) = if h : i < g.length then g[i] else 0 := by
      unfold rd
      rw [Int.toNat_natCast, List.getD_eq_getElem?_getD, hx]
      by_cases h : i < g.length
      · rw [dif_pos h, List.getElem?_append_left h, List.getElem?_eq_getElem h]
        rfl
      · rw [dif_neg h, List.getElem?_append_right (by omega)]
        have : i - g.length = 0 := by omega
        rw [this]
        rfl
    have hc : (((rd x (i : Int)) == 0) != ((i : Int) == (g.length : Int))) = false := by
      rw [hrd]
      by_cases h : i < g.length
      · rw [dif_pos h]
        have h1 : (g[i] == 0) = false := beq_eq_false_iff_ne.2 (hg _ (List.getElem_mem h))
        have h3 : ((i : Int) == (g.length : Int)) = false := beq_eq_false_iff_ne.2 (by omega)
        rw [h1, h3]
        rfl
      · rw [dif_neg h]
        have h3 : ((i : Int) == (g.length : Int)) = true := beq_iff_eq.2 (by omega)
        rw [h3]
        rfl
    rw [hc, if_neg (by simp), w64_one i (by omega)]
    exact ih (i + 1) k (by omega) (by omega)
theorem COBSNoZeros : tricklelaw03_COBSNoZeros.Pure := by
  intro l0 hm hl hw
  have h1 := E_len l0
  have h2 := size_le l0.length
  refine ⟨8 * l0.length + 50, ?_⟩
  unfold tricklelaw03_COBSNoZeros.f tricklelaw03_wakes.f
  rw [Option.bind_some, if_pos rfl]
  by_cases h : (l0.length : Int) > 1200
  · rw [if_pos h]
  · rw [if_neg h, enc_tells l0 _ (by omega) (isB_of_wf hw) (by omega)]
    simp -implicitDefEqProofs only [Option.bind_some]
    rw [size_tells _ (by omega)]
    simp -implicitDefEqProofs only [Option.bind_some]
    rw [if_neg (by omega)]
    have h3 := G_pos (l0.length + 1) l0 (by omega)
    have h4 : 0 < (G (l0.length + 1) l0).length := List.length_pos_iff.2 h3
    have h5 : (E l0).length = (G (l0.length + 1) l0).length + 1 := by simp [E]
    exact nz_l0 (G (l0.length + 1) l0) (E l0) rfl (G_nz _ _) (by omega) (by omega) (E l0).length 0 _ (by omega) (by omega)
end Go.Proofs.Ytnlpckkaddpieaa.Pure
