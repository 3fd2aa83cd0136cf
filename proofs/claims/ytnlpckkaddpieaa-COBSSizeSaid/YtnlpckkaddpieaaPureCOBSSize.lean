/-
  For every n up to 2^40, Size returns the reference's number, and the encoding of n (at most 1200) nonzero bytes has exactly this length: the pure statement of the law COBSSize.
  Conditions: none beyond the statement's own.
-/
import Derived.Test.YtnlpckkaddpieaaPr5
import Derived.Test.YtnlpckkaddpieaaPureCOBSNoZeros
namespace Go.Proofs.Ytnlpckkaddpieaa.Pure
open Go.RowKit Go.Proofs.Ytnlpckkaddpieaa.Pr Go.Proofs.Ytnlpckkaddpieaa.Plain Go.Proofs.YtnlpckkaddpieaaW.PrintWords Go.Proofs.YtnlpckkaddpieaaW.PrintLast Go.Proofs.YtnlpckkaddpieaaW.PrintMore
theorem ref_size_tells (n : Nat) (h : n ≤ 1099511627776) : trickleref03_Size.f (n : Int) = some (size n : Int) := by
  unfold trickleref03_Size.f size
  rw [if_neg (by omega)]
  by_cases h0 : n = 0
  · subst h0
    rfl
  · rw [if_neg (by omega), if_neg h0]
    have e2 : Int.tdiv ((n + 253 : Nat) : Int) 254 = (((n + 253) / 254 : Nat) : Int) := by rw [Int.tdiv_eq_ediv_of_nonneg (by omega)]; omega
    rw [w64 ((n : Int) + 253) ((n + 253 : Nat) : Int) (by omega) (by omega) (by omega), e2, w64 ((n : Int) + 1) ((n + 1 : Nat) : Int) (by omega) (by omega) (by omega), w64 (((n + 253) / 254 : Nat) : Int) (((n + 253) / 254 : Nat) : Int) rfl (by omega) (by omega), w64 (((n + 1 : Nat) : Int) + (((n + 253) / 254 : Nat) : Int)) ((n + 1 + (n + 253) / 254 : Nat) : Int) (by omega) (by omega) (by omega)]
theorem size_loop (c : Int) (n : Nat) (hn : n ≤ 1200) (hc : 0 < c ∧ c ≤ 255) (d : Nat) : ∀ (i k : Nat), i + d = n → d + 2 * n + 4 ≤ k → tricklelaw03_COBSSize.l0 k (n : Int) c (List.replicate i c) (n : Int) (i : Int) = some true := by
  induction d with
  | zero =>
    intro i k hi hk
    obtain ⟨k, rfl⟩ : ∃ m, k = m + 1 := ⟨k - 1, by omega⟩
    obtain rfl : i = n := by omega
    simp only [tricklelaw03_COBSSize.l0]
    rw [if_neg (by omega), enc_tells _ k (by rw [List.length_replicate]; omega) (fun x hx => by rw [List.eq_of_mem_replicate hx]; exact ⟨by omega, hc.2⟩) (by rw [List.length_replicate]; omega)]
    simp -implicitDefEqProofs only [Option.bind_some]
    rw [size_tells _ (by omega)]
    simp -implicitDefEqProofs only [Option.bind_some]
    have h1 := G_len_nz ((List.replicate i c).length + 1) (List.replicate i c) (by omega) (fun x hx => by rw [List.eq_of_mem_replicate hx]; omega)
    have h2 : (E (List.replicate i c)).length = (G ((List.replicate i c).length + 1) (List.replicate i c)).length + 1 := by simp [E]
    rw [List.length_replicate] at h1 h2
    rw [h2, h1]
    simp
  | succ d ih =>
    intro i k hi hk
    obtain ⟨k, rfl⟩ : ∃ m, k = m + 1 := ⟨k - 1, by omega⟩
    simp only [tricklelaw03_COBSSize.l0]
    rw [if_pos (by omega), if_pos (by rw [List.length_replicate]; omega), w64_one i (by omega), ← List.replicate_succ']
    exact ih (i + 1) k (by omega) (by omega)
theorem sizes_same (n : Int) (h : n ≤ 1099511627776) : ∃ r, cobs_Size.f n = some r ∧ trickleref03_Size.f n = some r := by
  by_cases h0 : n < 0
  · exact ⟨0, by unfold cobs_Size.f; rw [if_pos h0], by unfold trickleref03_Size.f; rw [if_pos h0]⟩
  · obtain ⟨m, rfl⟩ : ∃ m : Nat, n = m := ⟨n.toNat, by omega⟩
    exact ⟨_, size_tells m (by omega), ref_size_tells m (by omega)⟩
theorem COBSSize : tricklelaw03_COBSSize.Pure := by
  intro n c hn hc
  have hcb : 0 ≤ c ∧ c ≤ 255 := by
    simp [Lit.wf, IntKind.min, IntKind.max, IntKind.signed, IntKind.bits] at hc
    omega
  refine ⟨4000, ?_⟩
  unfold tricklelaw03_COBSSize.f tricklelaw03_wakes.f
  rw [Option.bind_some, if_pos rfl]
  by_cases h : n > 1099511627776
  · rw [if_pos h]
  · obtain ⟨r, h1, h2⟩ := sizes_same n (by omega)
    have ht : tricklelaw03_COBSSize.j0 4000 n c true = some true := by
      show tricklelaw03_COBSSize.j0 (3999 + 1) n c true = some true
      simp only [tricklelaw03_COBSSize.j0]
      rw [if_pos trivial, h1, Option.bind_some, h2, Option.bind_some]
      simp
    rw [if_neg h, h1, Option.bind_some, h2, Option.bind_some, if_pos rfl]
    by_cases c0 : c = 0
    · rw [if_pos c0]; exact ht
    rw [if_neg c0]
    by_cases n0 : n < 0
    · rw [if_pos n0]; exact ht
    rw [if_neg n0]
    by_cases n1 : n > 1200
    · rw [decide_eq_true n1]; exact ht
    rw [decide_eq_false n1]
    obtain ⟨m, rfl⟩ : ∃ m : Nat, n = m := ⟨n.toNat, by omega⟩
    show tricklelaw03_COBSSize.j0 (3999 + 1) (m : Int) c false = some true
    simp only [tricklelaw03_COBSSize.j0]
    rw [if_neg (by simp)]
    exact size_loop c m (by omega) ⟨by omega, hcb.2⟩ m 0 3999 (by omega) (by omega)
end Go.Proofs.Ytnlpckkaddpieaa.Pure
