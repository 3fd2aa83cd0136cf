/-
  COBSSplitter: the plain law: Write over pieces is Write over the whole, and the reference's Split tells the same.
-/
import Derived.Test.YtnlpckkaddpieaaPkt
import Derived.Test.YtnlpckkaddpieaaPr5
set_option linter.unusedVariables false
namespace Go.Proofs.Ytnlpckkaddpieaa.Spl
open Go.RowKit Go.Proofs.Ytnlpckkaddpieaa.Pr Go.Proofs.Ytnlpckkaddpieaa.Plain Go.Proofs.Ytnlpckkaddpieaa.Wrt Go.Proofs.Ytnlpckkaddpieaa.Pkt Go.Proofs.YtnlpckkaddpieaaW.PrintWords Go.Proofs.YtnlpckkaddpieaaW.PrintLast Go.Proofs.YtnlpckkaddpieaaW.PrintMore
/-- Write, with the decoding told. -/
def wp (most : Int) : List Int → List Int → Int → List (List Int) → List Int × Int × List (List Int)
  | [], pd, sk, out => (pd, sk, out)
  | c :: l, pd, sk, out =>
    if c ≠ 0 then wp most l (pd ++ [c]) sk out
    else if pd = [] then wp most l [] sk out
    else if (Dec (pd ++ [0])).2 = 0 ∧ ((Dec (pd ++ [0])).1.length : Int) ≤ most then wp most l [] sk (out ++ [(Dec (pd ++ [0])).1]) else wp most l [] (sk + 1) out
theorem wp_tells (most : Int) : ∀ (l pd : List Int) (sk : Int) (out : List (List Int)), isB l → isB pd → pd.length + l.length ≤ 1000 → wrF most 10000 l pd sk out = some (wp most l pd sk out)
  | [], pd, sk, out, _, _, _ => rfl
  | c :: l, pd, sk, out, hl, hp, hn => by
    have hc := hl c (by simp)
    have hl' : isB l := fun x hx => hl x (by simp [hx])
    have h0 : isB [] := fun x hx => by simp at hx
    simp only [List.length_cons] at hn
    rw [wrF, wp]
    by_cases h1 : c ≠ 0
    · rw [if_pos h1, if_pos h1]
      exact wp_tells most l (pd ++ [c]) sk out hl' (fun x hx => by rcases List.mem_append.1 hx with hx | hx; exact hp x hx; (simp at hx; rw [hx]; exact hc)) (by rw [List.length_append]; simp; omega)
    · rw [if_neg h1, if_neg h1]
      by_cases h2 : pd = []
      · rw [if_pos h2, if_pos h2]
        exact wp_tells most l [] sk out hl' h0 (by simp; omega)
      · rw [if_neg h2, if_neg h2]
        have hd := dec_tells (pd ++ [0]) 10000 (by rw [List.length_append]; simp; omega) (fun x hx => by rcases List.mem_append.1 hx with hx | hx; exact hp x hx; (simp at hx; rw [hx]; omega)) (by rw [List.length_append]; simp; omega)
        rw [hd]
        show (if (Dec (pd ++ [0])).2 = 0 ∧ ((Dec (pd ++ [0])).1.length : Int) ≤ most then wrF most 10000 l [] sk (out ++ [(Dec (pd ++ [0])).1]) else wrF most 10000 l [] (sk + 1) out) = _
        split
        · exact wp_tells most l [] sk _ hl' h0 (by simp; omega)
        · exact wp_tells most l [] (sk + 1) out hl' h0 (by simp; omega)
theorem wp_append (most : Int) : ∀ (a l pd : List Int) (sk : Int) (out : List (List Int)), wp most (a ++ l) pd sk out = wp most l (wp most a pd sk out).1 (wp most a pd sk out).2.1 (wp most a pd sk out).2.2
  | [], l, pd, sk, out => rfl
  | c :: a, l, pd, sk, out => by
    show wp most (c :: (a ++ l)) pd sk out = _
    rw [wp, wp]
    split
    · exact wp_append most a l _ sk out
    · split
      · exact wp_append most a l _ sk out
      · split
        · exact wp_append most a l _ sk _
        · exact wp_append most a l _ _ out
theorem wp_out (most : Int) : ∀ (l pd : List Int) (sk : Int) (o out : List (List Int)), wp most l pd sk (o ++ out) = ((wp most l pd sk out).1, (wp most l pd sk out).2.1, o ++ (wp most l pd sk out).2.2)
  | [], pd, sk, o, out => rfl
  | c :: l, pd, sk, o, out => by
    rw [wp, wp]
    split
    · exact wp_out most l _ sk o out
    · split
      · exact wp_out most l _ sk o out
      · split
        · rw [List.append_assoc]
          exact wp_out most l _ sk o _
        · exact wp_out most l _ _ o out
theorem split_l0 (most : Int) (b : List Int) (hb : isB b) (hlen : b.length ≤ 600) : ∀ (e k i fr : Nat) (out : List (List Int)) (sk : Int), b.length = i + e → fr ≤ i → out.length ≤ i → 0 ≤ sk → sk ≤ i → e + 4000 ≤ k →
    trickleref03_Split.l0 k b most out sk (fr : Int) (i : Int) = some ((wp most (b.drop i) ((b.take i).drop fr) sk out).2.2, (wp most (b.drop i) ((b.take i).drop fr) sk out).2.1) := by
  intro e
  induction e with
  | zero =>
    intro k i fr out sk hi hf ho h0 h1 hk
    obtain ⟨k, rfl⟩ : ∃ q, k = q + 1 := ⟨k - 1, by omega⟩
    rw [trickleref03_Split.l0, if_neg (by omega), List.drop_eq_nil_of_le (by omega), wp]
  | succ e ih =>
    intro k i fr out sk hi hf ho h0 h1 hk
    obtain ⟨k, rfl⟩ : ∃ q, k = q + 1 := ⟨k - 1, by omega⟩
    have hlt : i < b.length := by omega
    have hrd : rd b (i : Int) = b[i] := by
      unfold rd
      rw [List.getD_eq_getElem?_getD, Int.toNat_natCast, List.getElem?_eq_getElem hlt]
      rfl
    have hw : wrap64 ((i : Int) + 1) = ((i + 1 : Nat) : Int) := by unfold wrap64; omega
    have hws : wrap64 (sk + 1) = sk + 1 := by unfold wrap64; omega
    have htk : b.take (i + 1) = b.take i ++ [b[i]] := List.take_succ_eq_append_getElem hlt
    have hti : (b.take i).length = i := by rw [List.length_take]; omega
    have hpd : (b.take (i + 1)).drop fr = (b.take i).drop fr ++ [b[i]] := by rw [htk, List.drop_append_of_le_length (by omega)]
    have hnil : (b.take (i + 1)).drop (i + 1) = [] := List.drop_eq_nil_of_le (by rw [List.length_take]; omega)
    have hpl : ((b.take i).drop fr).length = i - fr := by rw [List.length_drop, hti]
    rw [trickleref03_Split.l0, if_pos (by omega), if_pos (by omega), hrd, hw, hws, List.drop_eq_getElem_cons hlt, wp]
    by_cases hz : b[i] = 0
    · rw [if_pos hz, if_neg (show ¬ (b[i] ≠ 0) from fun h => h hz)]
      by_cases hc : i > fr
      · have hne : (b.take i).drop fr ≠ [] := fun h => by rw [h] at hpl; simp at hpl; omega
        have hd := ref_dec_tells ((b.take i).drop fr ++ [0]) k (by rw [List.length_append]; simp; omega) (fun x hx => by rcases List.mem_append.1 hx with hx | hx; exact hb x (List.mem_of_mem_take (List.mem_of_mem_drop hx)); (simp at hx; rw [hx]; omega)) (by rw [List.length_append]; simp; omega)
        rw [if_pos (show (i : Int) > (fr : Int) by omega), if_pos (show (0 : Int) ≤ (fr : Int) by omega), if_pos (show (fr : Int) ≤ ((i + 1 : Nat) : Int) by omega), if_pos (show ((i + 1 : Nat) : Int) ≤ (b.length : Int) by omega), Int.toNat_natCast, Int.toNat_natCast, hpd, hz, hd, Option.bind_some, if_neg hne]
        by_cases h2 : (Dec ((b.take i).drop fr ++ [0])).2 = 0
        · rw [if_pos h2]
          by_cases h3 : ((Dec ((b.take i).drop fr ++ [0])).1.length : Int) ≤ most
          · rw [if_pos h3, if_pos (show out.length < 5864062014805 by omega), if_pos ⟨h2, h3⟩, ih k (i + 1) (i + 1) _ sk (by omega) (by omega) (by rw [List.length_append]; simp; omega) h0 (by omega) (by omega), hnil]
          · rw [if_neg h3, if_neg (fun h => h3 h.2), ih k (i + 1) (i + 1) out (sk + 1) (by omega) (by omega) (by omega) (by omega) (by omega) (by omega), hnil]
        · rw [if_neg h2, if_neg (fun h => h2 h.1), ih k (i + 1) (i + 1) out (sk + 1) (by omega) (by omega) (by omega) (by omega) (by omega) (by omega), hnil]
      · have he : (b.take i).drop fr = [] := List.drop_eq_nil_of_le (by omega)
        rw [if_neg (show ¬ (i : Int) > (fr : Int) by omega), if_pos he, ih k (i + 1) (i + 1) out sk (by omega) (by omega) (by omega) h0 (by omega) (by omega), hnil]
    · rw [if_neg hz, if_pos (show b[i] ≠ 0 from hz), ih k (i + 1) fr out sk (by omega) (by omega) (by omega) h0 (by omega) (by omega), hpd]
theorem split_tells (most : Int) (b : List Int) (hb : isB b) (hlen : b.length ≤ 600) : trickleref03_Split.f 5000 b most = some ((wp most b [] 0 []).2.2, (wp most b [] 0 []).2.1) := by
  have h := split_l0 most b hb hlen b.length 5000 0 0 [] 0 (by omega) (by omega) (by simp) (by omega) (by omega) (by omega)
  simpa [trickleref03_Split.f] using h
theorem wp_count (most : Int) : ∀ (l pd : List Int) (sk : Int) (out : List (List Int)), (wp most l pd sk out).2.2.length ≤ out.length + l.length
  | [], pd, sk, out => by simp [wp]
  | c :: l, pd, sk, out => by
    rw [wp]
    split
    · have := wp_count most l (pd ++ [c]) sk out; simp only [List.length_cons]; omega
    · split
      · have := wp_count most l [] sk out; simp only [List.length_cons]; omega
      · split
        · have := wp_count most l [] sk (out ++ [(Dec (pd ++ [0])).1]); simp only [List.length_cons, List.length_append, List.length_nil] at *; omega
        · have := wp_count most l [] (sk + 1) out; simp only [List.length_cons]; omega
end Go.Proofs.Ytnlpckkaddpieaa.Spl
