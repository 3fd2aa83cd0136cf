/-
  The plain law of Together: both functions tell the same, whatever the order.
-/
import Derived.Test.YtgefhejpaojhbaaPlain2
import Derived.Test.YtgefhejpaojhbaaPr3
namespace Go.Proofs.Ytgefhejpaojhbaa.Plain
open Go.RowKit Go.Proofs.Ytgefhejpaojhbaa.Pr Go.Proofs.YtgefhejpaojhbaaW.PrintWords Go.Proofs.YtgefhejpaojhbaaW.PrintLast Go.Proofs.YtgefhejpaojhbaaW.PrintMore
/-- All valid, of matching epochs, and near each other. -/
def TG (L : List S46) (n : Int) : Prop := ∀ x ∈ L, stp x.f1.f0 x.f1.f1 x.f2 = true ∧ ∀ y ∈ L, mtc x.f2 y.f2 = true ∧ x.f1.f1 - y.f1.f1 ≤ n
theorem tog_loop2 (L : List S46) (hl : L.length ≤ 60) (n : Int) (hv : ∀ x ∈ L, 0 ≤ x.f1.f1 ∧ x.f1.f1 < 1099511627776) : ∀ (m i k : Nat) (a b : Int), i + m = L.length → m < k → (∃ x ∈ L, x.f1.f1 = a) → (∃ x ∈ L, x.f1.f1 = b) → (∀ (j : Nat) (hj : j < L.length), j < i → a ≤ L[j].f1.f1 ∧ L[j].f1.f1 ≤ b) → ∃ c, expiry_Together.l1 k n a b L (L.length : Int) (i : Int) = some c ∧ (c = true ↔ ∀ x ∈ L, ∀ y ∈ L, x.f1.f1 - y.f1.f1 ≤ n) := by
  intro m
  induction m with
  | zero =>
    intro i k a b hi hk ha hb hab
    obtain ⟨k, rfl⟩ : ∃ k', k = k' + 1 := ⟨k - 1, by omega⟩
    obtain ⟨xa, hxa, rfl⟩ := ha
    obtain ⟨xb, hxb, rfl⟩ := hb
    have va := hv xa hxa
    have vb := hv xb hxb
    refine ⟨decide (xb.f1.f1 - xa.f1.f1 ≤ n), ?_, ?_⟩
    · simp only [expiry_Together.l1]
      rw [if_neg (by omega), w64 (xb.f1.f1 - xa.f1.f1) (by omega) (by omega)]
    · rw [decide_eq_true_iff]
      constructor
      · intro h x hx y hy
        obtain ⟨p, hp, rfl⟩ := List.mem_iff_getElem.1 hx
        obtain ⟨q, hq, rfl⟩ := List.mem_iff_getElem.1 hy
        have := hab p hp (by omega)
        have := hab q hq (by omega)
        omega
      · intro h
        exact h xb hxb xa hxa
  | succ m ih =>
    intro i k a b hi hk ha hb hab
    obtain ⟨k, rfl⟩ : ∃ k', k = k' + 1 := ⟨k - 1, by omega⟩
    simp only [expiry_Together.l1]
    rw [if_pos (by omega), if_pos (by omega), if_pos (by omega), rd46 L i (by omega), w64 ((i : Int) + 1) (by omega) (by omega)]
    have hm : L[i] ∈ L := List.getElem_mem ..
    refine ih (i + 1) k (mn a L[i].f1.f1) (mx b L[i].f1.f1) (by omega) (by omega) ?_ ?_ ?_
    · unfold mn
      split
      · first | exact ha | exact ⟨_, hm, rfl⟩
      · first | exact ha | exact ⟨_, hm, rfl⟩
    · unfold mx
      split
      · first | exact hb | exact ⟨_, hm, rfl⟩
      · first | exact hb | exact ⟨_, hm, rfl⟩
    · intro j hj hji
      by_cases e : j = i
      · subst e
        unfold mn mx
        (repeat' split) <;> omega
      · have := hab j hj (by omega)
        unfold mn mx
        (repeat' split) <;> omega
theorem tog_loop1 (L : List S46) (hl : L.length ≤ 60) (n : Int) : ∀ (m i k : Nat), i + m = L.length → m + 70 < k → (∀ (j : Nat) (hj : j < L.length), j < i → stp L[j].f1.f0 L[j].f1.f1 L[j].f2 = true ∧ mtc L[j].f2 (L[0]'(by omega)).f2 = true) → ∃ c, expiry_Together.l0 k L n L (L.length : Int) (i : Int) = some c ∧ (c = true ↔ TG L n) := by
  intro m
  induction m with
  | zero =>
    intro i k hi hk hg
    obtain ⟨k, rfl⟩ : ∃ k', k = k' + 1 := ⟨k - 1, by omega⟩
    simp only [expiry_Together.l0]
    rw [if_neg (by omega)]
    by_cases h0 : L.length = 0
    · rw [if_pos (by omega)]
      refine ⟨true, rfl, fun _ => ?_, fun _ => rfl⟩
      have : L = [] := List.length_eq_zero_iff.1 h0
      subst this
      intro x hx
      cases hx
    · rw [if_neg (by omega), if_pos (by omega), rd46z L (by omega)]
      have hv : ∀ x ∈ L, 0 ≤ x.f1.f1 ∧ x.f1.f1 < 1099511627776 := by
        intro x hx
        obtain ⟨p, hp, rfl⟩ := List.mem_iff_getElem.1 hx
        have := stp_of (hg p hp (by omega)).1
        omega
      have hm : L[0] ∈ L := List.getElem_mem ..
      obtain ⟨c, h1, h2⟩ := tog_loop2 L hl n hv L.length 0 k L[0].f1.f1 L[0].f1.f1 (by omega) (by omega) ⟨_, hm, rfl⟩ ⟨_, hm, rfl⟩ (fun j hj h => by omega)
      refine ⟨c, h1, h2.trans ⟨fun h x hx => ?_, fun h x hx y hy => ((h x hx).2 y hy).2⟩⟩
      obtain ⟨p, hp, rfl⟩ := List.mem_iff_getElem.1 hx
      refine ⟨(hg p hp (by omega)).1, fun y hy => ⟨?_, h _ hx y hy⟩⟩
      obtain ⟨q, hq, rfl⟩ := List.mem_iff_getElem.1 hy
      have e1 := (hg p hp (by omega)).2
      have e2 := (hg q hq (by omega)).2
      unfold mtc at e1 e2 ⊢
      rw [beq_iff_eq] at e1 e2 ⊢
      rw [e1, e2]
  | succ m ih =>
    intro i k hi hk hg
    obtain ⟨k, rfl⟩ : ∃ k', k = k' + 1 := ⟨k - 1, by omega⟩
    simp only [expiry_Together.l0]
    have hm : L[i] ∈ L := List.getElem_mem ..
    have hm0 : L[0]'(by omega) ∈ L := List.getElem_mem ..
    rw [if_pos (by omega), if_pos (by omega), if_pos (by omega), rd46 L i (by omega), rd46z L (by omega), stamp_tells, match_tells]
    simp -implicitDefEqProofs only [Option.bind_some]
    cases hs : stp L[i].f1.f0 L[i].f1.f1 L[i].f2
    · rw [if_neg (by simp)]
      refine ⟨false, rfl, fun h => (by cases h), fun h => ?_⟩
      have := (h _ hm).1
      rw [hs] at this
      cases this
    · rw [if_pos rfl, if_pos (by omega)]
      cases ht : mtc L[i].f2 (L[0]'(by omega)).f2
      · rw [if_neg (by simp)]
        refine ⟨false, rfl, fun h => (by cases h), fun h => ?_⟩
        have := ((h _ hm).2 _ hm0).1
        rw [ht] at this
        cases this
      · rw [if_pos rfl, w64 ((i : Int) + 1) (by omega) (by omega)]
        refine ih (i + 1) k (by omega) (by omega) ?_
        intro j hj hji
        by_cases e : j = i
        · subst e
          exact ⟨hs, ht⟩
        · exact hg j hj (by omega)
theorem together_tells (L : List S46) (hl : L.length ≤ 60) (n : Int) (k : Nat) (hk : 140 < k) : ∃ c, expiry_Together.f k L n = some c ∧ (c = true ↔ lmt n = true ∧ TG L n) := by
  unfold expiry_Together.f
  rw [limit_tells]
  simp -implicitDefEqProofs only [Option.bind_some]
  cases h : lmt n
  · exact ⟨false, by simp, by simp⟩
  · obtain ⟨c, h1, h2⟩ := tog_loop1 L hl n L.length 0 k (by omega) (by omega) (fun j hj h => by omega)
    exact ⟨c, by rw [if_pos rfl]; exact h1, h2.trans (by simp)⟩
/-! ### The reference -/
def good (l : List S49) (n : Int) (a b : Nat) (ha : a < l.length) (hb : b < l.length) : Prop := mtc l[a].f2 l[b].f2 = true ∧ l[a].f1.f1 - l[b].f1.f1 ≤ n ∧ -(l[a].f1.f1 - l[b].f1.f1) ≤ n
def OK (l : List S49) (n : Int) (i : Nat) : Prop := ∀ (a : Nat) (ha : a < l.length), i ≤ a → stp l[a].f1.f0 l[a].f1.f1 l[a].f2 = true ∧ ∀ (b : Nat) (hb : b < a), good l n a b ha (by omega)
theorem ref_inner (l : List S49) (hl : l.length ≤ 60) (n : Int) (i : Nat) (hi : i < l.length) (hv : ∀ (a : Nat) (ha : a < l.length), a ≤ i → stp l[a].f1.f0 l[a].f1.f1 l[a].f2 = true) (K : Nat) (ih : ∀ k, K ≤ k → ∃ c, trickleref41_Together.l0 k l n ((i + 1 : Nat) : Int) = some c ∧ (c = true ↔ OK l n (i + 1))) : ∀ (m j k : Nat), j + m = i → m + 1 + K ≤ k → ∃ c, trickleref41_Together.l1 k l n (i : Int) (j : Int) = some c ∧ (c = true ↔ (∀ (b : Nat) (hb : b < i), j ≤ b → good l n i b hi (by omega)) ∧ OK l n (i + 1)) := by
  intro m
  induction m with
  | zero =>
    intro j k hj hk
    obtain ⟨k, rfl⟩ : ∃ k', k = k' + 1 := ⟨k - 1, by omega⟩
    simp only [trickleref41_Together.l1]
    rw [if_neg (by omega), w64 ((i : Int) + 1) (by omega) (by omega)]
    obtain ⟨c, h1, h2⟩ := ih k (by omega)
    refine ⟨c, h1, h2.trans ⟨fun h => ⟨fun b hb hjb => by omega, h⟩, fun h => h.2⟩⟩
  | succ m ihm =>
    intro j k hj hk
    obtain ⟨k, rfl⟩ : ∃ k', k = k' + 1 := ⟨k - 1, by omega⟩
    simp only [trickleref41_Together.l1]
    rw [if_pos (by omega), if_pos (by omega), if_pos (by omega), if_pos (by omega), if_pos (by omega), rd49 l i (by omega), rd49 l j (by omega), match41_tells]
    simp -implicitDefEqProofs only [Option.bind_some]
    have v1 := stp_of (hv i hi (by omega))
    have v2 := stp_of (hv j (by omega) (by omega))
    rw [w64 (l[i].f1.f1 - l[j].f1.f1) (by omega) (by omega), w64 (-(l[i].f1.f1 - l[j].f1.f1)) (by omega) (by omega)]
    cases hm : mtc l[i].f2 l[j].f2
    · rw [if_neg (by simp)]
      refine ⟨false, rfl, fun h => (by cases h), fun h => ?_⟩
      have := (h.1 j (by omega) (by omega)).1
      rw [hm] at this
      cases this
    · rw [if_pos rfl]
      by_cases h1 : l[i].f1.f1 - l[j].f1.f1 > n
      · rw [if_pos h1]
        refine ⟨false, rfl, fun h => (by cases h), fun h => ?_⟩
        have := (h.1 j (by omega) (by omega)).2.1
        omega
      · rw [if_neg h1]
        by_cases h2 : -(l[i].f1.f1 - l[j].f1.f1) > n
        · rw [if_pos h2]
          refine ⟨false, rfl, fun h => (by cases h), fun h => ?_⟩
          have := (h.1 j (by omega) (by omega)).2.2
          omega
        · rw [if_neg h2, w64 ((j : Int) + 1) (by omega) (by omega)]
          obtain ⟨c, e1, e2⟩ := ihm (j + 1) k (by omega) (by omega)
          refine ⟨c, e1, e2.trans ⟨fun h => ⟨fun b hb hjb => ?_, h.2⟩, fun h => ⟨fun b hb hjb => h.1 b hb (by omega), h.2⟩⟩⟩
          by_cases e : b = j
          · subst e
            exact ⟨hm, by omega, by omega⟩
          · exact h.1 b hb (by omega)
theorem ref_outer (l : List S49) (hl : l.length ≤ 60) (n : Int) : ∀ (m i k : Nat), i + m = l.length → 1 + m * 64 ≤ k → (∀ (a : Nat) (ha : a < l.length), a < i → stp l[a].f1.f0 l[a].f1.f1 l[a].f2 = true) → ∃ c, trickleref41_Together.l0 k l n (i : Int) = some c ∧ (c = true ↔ OK l n i) := by
  intro m
  induction m with
  | zero =>
    intro i k hi hk hv
    obtain ⟨k, rfl⟩ : ∃ k', k = k' + 1 := ⟨k - 1, by omega⟩
    simp only [trickleref41_Together.l0]
    rw [if_neg (by omega)]
    exact ⟨true, rfl, fun _ a ha h => by omega, fun _ => rfl⟩
  | succ m ih =>
    intro i k hi hk hv
    obtain ⟨k, rfl⟩ : ∃ k', k = k' + 1 := ⟨k - 1, by omega⟩
    simp only [trickleref41_Together.l0]
    rw [if_pos (by omega), if_pos (by omega), rd49 l i (by omega), valid41_tells]
    simp -implicitDefEqProofs only [Option.bind_some]
    cases hs : stp l[i].f1.f0 l[i].f1.f1 l[i].f2
    · rw [if_neg (by simp)]
      refine ⟨false, rfl, fun h => (by cases h), fun h => ?_⟩
      have := (h i (by omega) (by omega)).1
      rw [hs] at this
      cases this
    · rw [if_pos rfl]
      have hv' : ∀ (a : Nat) (ha : a < l.length), a ≤ i → stp l[a].f1.f0 l[a].f1.f1 l[a].f2 = true := by
        intro a ha hai
        by_cases e : a = i
        · subst e
          exact hs
        · exact hv a ha (by omega)
      obtain ⟨c, e1, e2⟩ := ref_inner l hl n i (by omega) hv' (1 + m * 64) (fun k' hk' => ih (i + 1) k' (by omega) hk' (fun a ha hai => hv' a ha (by omega))) i 0 k (by omega) (by omega)
      refine ⟨c, e1, e2.trans ⟨fun h a ha hia => ?_, fun h => ⟨fun b hb _ => (h i (by omega) (by omega)).2 b hb, fun a ha hia => h a ha (by omega)⟩⟩⟩
      by_cases e : a = i
      · subst e
        exact ⟨hs, fun b hb => h.1 b hb (by omega)⟩
      · exact h.2 a ha (by omega)
theorem ok_iff (l : List S49) (n : Int) (hn : 0 ≤ n) : OK l n 0 ↔ TG (l.map cv) n := by
  constructor
  · intro h x hx
    obtain ⟨x, hx0, rfl⟩ := List.mem_map.1 hx
    obtain ⟨p, hp, rfl⟩ := List.mem_iff_getElem.1 hx0
    refine ⟨(h p hp (by omega)).1, fun y hy => ?_⟩
    obtain ⟨y, hy0, rfl⟩ := List.mem_map.1 hy
    obtain ⟨q, hq, rfl⟩ := List.mem_iff_getElem.1 hy0
    rcases Nat.lt_trichotomy p q with e | e | e
    · have := (h q hq (by omega)).2 p e
      refine ⟨?_, this.2.2 |> fun z => by simp only [cv]; omega⟩
      have z := this.1
      unfold mtc at z ⊢
      rw [beq_iff_eq] at z ⊢
      exact z.symm
    · subst e
      exact ⟨by unfold mtc; simp, by simp only [cv]; omega⟩
    · have := (h p hp (by omega)).2 q e
      exact ⟨this.1, this.2.1⟩
  · intro h a ha _
    have hma : cv l[a] ∈ l.map cv := List.mem_map.2 ⟨_, List.getElem_mem .., rfl⟩
    refine ⟨(h _ hma).1, fun b hb => ?_⟩
    have hmb : cv (l[b]'(by omega)) ∈ l.map cv := List.mem_map.2 ⟨_, List.getElem_mem .., rfl⟩
    have h1 := (h _ hma).2 _ hmb
    have h2 := (h _ hmb).2 _ hma
    simp only [cv] at h1 h2
    exact ⟨h1.1, h1.2, by omega⟩
theorem ref_tells (l : List S49) (hl : l.length ≤ 60) (n : Int) (k : Nat) (hk : 3900 ≤ k) : ∃ c, trickleref41_Together.f k l n = some c ∧ (c = true ↔ lmt n = true ∧ TG (l.map cv) n) := by
  unfold trickleref41_Together.f
  rw [limit41_tells]
  simp -implicitDefEqProofs only [Option.bind_some]
  cases h : lmt n
  · exact ⟨false, by simp, by simp⟩
  · obtain ⟨c, h1, h2⟩ := ref_outer l hl n l.length 0 k (by omega) (by omega) (fun a ha h => by omega)
    have := lmt_of h
    exact ⟨c, by rw [if_pos rfl]; exact h1, by rw [h2, ok_iff l n (by omega)]; simp⟩
theorem TG_rev (l : List S49) (n : Int) : TG (l.reverse.map cv) n ↔ TG (l.map cv) n := by
  unfold TG
  simp only [List.mem_map, List.mem_reverse]
theorem back_loop (l : List S49) (hl : l.length ≤ 60) (n : Int) : ∀ (m i k : Nat), i + m = l.length → m + 4000 ≤ k → tricklelaw41_ExpiryTogether.l0 k l n (l.reverse.take i) (l.length : Int) (i : Int) = some true := by
  intro m
  induction m with
  | zero =>
    intro i k hi hk
    obtain ⟨k, rfl⟩ : ∃ k', k = k' + 1 := ⟨k - 1, by omega⟩
    simp only [tricklelaw41_ExpiryTogether.l0]
    rw [if_neg (by omega), List.take_of_length_le (by simp; omega), owns_tells l hl k (by omega), owns_tells l.reverse (by simpa using hl) k (by omega)]
    simp -implicitDefEqProofs only [Option.bind_some]
    obtain ⟨c1, e1, f1⟩ := together_tells (l.map cv) (by simpa using hl) n k (by omega)
    obtain ⟨c2, e2, f2⟩ := ref_tells l hl n k (by omega)
    obtain ⟨c3, e3, f3⟩ := together_tells (l.reverse.map cv) (by simpa using hl) n k (by omega)
    rw [e1, e2, e3]
    simp -implicitDefEqProofs only [Option.bind_some]
    rw [TG_rev] at f3
    have h12 : c1 = c2 := Bool.eq_iff_iff.2 (f1.trans f2.symm)
    have h31 : c3 = c1 := Bool.eq_iff_iff.2 (f3.trans f1.symm)
    rw [h31, ← h12]
    simp
  | succ m ih =>
    intro i k hi hk
    obtain ⟨k, rfl⟩ : ∃ k', k = k' + 1 := ⟨k - 1, by omega⟩
    simp only [tricklelaw41_ExpiryTogether.l0]
    have ew : wrap64 ((wrap64 ((l.length : Int) - 1)) - (i : Int)) = ((l.length - 1 - i : Nat) : Int) := by
      rw [w64 ((l.length : Int) - 1) (by omega) (by omega), w64 ((l.length : Int) - 1 - (i : Int)) (by omega) (by omega)]
      omega
    rw [ew, if_pos (by omega), if_pos (by omega), if_pos (by omega), if_pos (by simp; omega), w64 ((i : Int) + 1) (by omega) (by omega), rd49 l (l.length - 1 - i) (by omega)]
    have h := ih (i + 1) k (by omega) (by omega)
    rw [List.take_succ_eq_append_getElem (show i < l.reverse.length by simp; omega), List.getElem_reverse] at h
    exact h
theorem law_together (l : List S49) (n : Int) : tricklelaw41_ExpiryTogether.f 5000 l n = some true := by
  unfold tricklelaw41_ExpiryTogether.f tricklelaw41_examples.f
  simp -implicitDefEqProofs only [Option.bind_some, if_true]
  show tricklelaw41_ExpiryTogether.j0 (4999 + 1) l n _ = some true
  simp only [tricklelaw41_ExpiryTogether.j0]
  by_cases hl : (l.length : Int) > 60
  · rw [decide_eq_true hl, if_pos rfl]
    rfl
  · rw [decide_eq_false hl, if_neg (by simp)]
    exact back_loop l (by omega) n l.length 0 4999 (by omega) (by omega)
end Go.Proofs.Ytgefhejpaojhbaa.Plain
