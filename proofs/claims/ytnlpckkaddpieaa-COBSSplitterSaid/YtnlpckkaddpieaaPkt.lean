/-
  COBSPackets: the plain law: the encodings of packets, one behind the other, give exactly these packets.
-/
import Derived.Test.YtnlpckkaddpieaaWrt
import Derived.Test.YtnlpckkaddpieaaDec
set_option linter.unusedVariables false
namespace Go.Proofs.Ytnlpckkaddpieaa.Pkt
open Go.RowKit Go.Proofs.Ytnlpckkaddpieaa.Pr Go.Proofs.Ytnlpckkaddpieaa.Plain Go.Proofs.Ytnlpckkaddpieaa.Wrt Go.Proofs.YtnlpckkaddpieaaW.PrintWords Go.Proofs.YtnlpckkaddpieaaW.PrintLast Go.Proofs.YtnlpckkaddpieaaW.PrintMore
theorem wr_nz (most : Int) (kk : Nat) : ∀ (a rest pd : List Int) (sk : Int) (out : List (List Int)), (∀ x ∈ a, x ≠ 0) → wrF most kk (a ++ rest) pd sk out = wrF most kk rest (pd ++ a) sk out
  | [], rest, pd, sk, out, _ => by simp
  | x :: a, rest, pd, sk, out, h => by
    have h1 := h x (by simp)
    show wrF most kk (x :: (a ++ rest)) pd sk out = _
    rw [wrF, if_pos h1, wr_nz most kk a rest (pd ++ [x]) sk out (fun y hy => h y (by simp [hy]))]
    simp
theorem wr_E (most : Int) (kk : Nat) (p rest : List Int) (sk : Int) (out : List (List Int)) (hp : isB p) (hl : p.length ≤ 300) (hm : (p.length : Int) ≤ most) (hk : 10000 ≤ kk) : wrF most kk (E p ++ rest) [] sk out = wrF most kk rest [] sk (out ++ [p]) := by
  have hE : E p = G (p.length + 1) p ++ [0] := rfl
  have hlen := E_len p
  have hsz := size_le p.length
  have hd := dec_tells (E p) kk (by omega) (isB_E hp) (by omega)
  rw [Dec_E] at hd
  rw [hE, List.append_assoc, wr_nz most kk _ _ [] sk out (G_nz _ p), List.nil_append]
  show wrF most kk (0 :: rest) (G (p.length + 1) p) sk out = _
  rw [wrF, if_neg (by simp), if_neg (G_pos _ p (by omega)), ← hE, hd]
  simp only
  rw [if_pos ⟨trivial, hm⟩]
theorem wr_all (most : Int) (kk : Nat) (hk : 10000 ≤ kk) (sk : Int) : ∀ (l out : List (List Int)), (∀ p ∈ l, isB p ∧ p.length ≤ 300 ∧ (p.length : Int) ≤ most) → wrF most kk (l.flatMap E) [] sk out = some ([], sk, out ++ l)
  | [], out, _ => by simp [wrF]
  | p :: l, out, h => by
    have h1 := h p (by simp)
    rw [List.flatMap_cons, wr_E most kk p _ sk out h1.1 h1.2.1 h1.2.2 hk, wr_all most kk hk sk l (out ++ [p]) (fun q hq => h q (by simp [hq]))]
    simp
theorem sp_l0 (l : List (List Int)) (hl : l.length ≤ 1000) : ∀ (e k j : Nat), l.length = j + e → e < k → trickleref03_SamePackets.l0 k l l (j : Int) = some true := by
  intro e
  induction e with
  | zero =>
    intro k j hj hk
    cases k with
    | zero => omega
    | succ k =>
      rw [trickleref03_SamePackets.l0, if_neg (by omega)]
  | succ e ih =>
    intro k j hj hk
    cases k with
    | zero => omega
    | succ k =>
      have hw : wrap64 ((j : Int) + 1) = ((j + 1 : Nat) : Int) := by unfold wrap64; omega
      rw [trickleref03_SamePackets.l0, if_pos (by omega), if_pos (by omega), if_pos (by omega), same_refl, Option.bind_some, if_pos rfl, hw]
      exact ih k (j + 1) (by omega) (by omega)
theorem sp_refl (l : List (List Int)) (hl : l.length ≤ 1000) : trickleref03_SamePackets.f 1001 l l = some true := by
  unfold trickleref03_SamePackets.f
  rw [if_pos rfl]
  exact sp_l0 l hl l.length 1001 0 (by omega) (by omega)
theorem flat_len (l : List (List Int)) (h : ∀ p ∈ l, p.length ≤ 300) : (l.flatMap E).length ≤ l.length * 602 := by
  induction l with
  | nil => simp
  | cons p l ih =>
    have h1 := E_len p
    have h2 := size_le p.length
    have h3 := h p (by simp)
    have h4 := ih (fun q hq => h q (by simp [hq]))
    rw [List.flatMap_cons, List.length_append, List.length_cons]
    omega
end Go.Proofs.Ytnlpckkaddpieaa.Pkt
