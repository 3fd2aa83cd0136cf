/-
  What the printed Decode of the program and of the reference tell: one and the same plain function.
-/
import Derived.Test.YtnlpckkaddpieaaPr4
import Derived.Test.YtnlpckkaddpieaaEnc
namespace Go.Proofs.Ytnlpckkaddpieaa.Plain
open Go.RowKit Go.Proofs.Ytnlpckkaddpieaa.Pr Go.Proofs.YtnlpckkaddpieaaW.PrintWords Go.Proofs.YtnlpckkaddpieaaW.PrintLast Go.Proofs.YtnlpckkaddpieaaW.PrintMore
theorem w64 (n m : Int) (h : n = m) (h1 : -9223372036854775808 ≤ m) (h2 : m ≤ 9223372036854775807) : wrap64 n = m := by
  subst h
  unfold wrap64
  omega
theorem w64_step (a m : Nat) (h : a + m < 1000000000000000) : wrap64 ((a : Int) + ((m : Int) + 1)) = ((a + m + 1 : Nat) : Int) := w64 _ _ (by omega) (by omega) (by omega)
theorem w64_one (a : Nat) (h : a < 1000000000000000) : wrap64 ((a : Int) + 1) = ((a + 1 : Nat) : Int) := w64 _ _ (by omega) (by omega) (by omega)
theorem w64_pred (l : List Int) (n : Nat) (h : l.length = n + 1) (hl : n < 1000000000000000) : wrap64 ((l.length : Int) - 1) = (n : Int) := w64 _ _ (by omega) (by omega) (by omega)
theorem D_more (f g : Nat) (out l : List Int) (hf : l.length < f) (hg : l.length < g) : D f out l = D g out l := by
  induction f generalizing g out l with
  | zero => omega
  | succ f ih =>
    cases g with
    | zero => omega
    | succ g =>
      cases l with
      | nil => rfl
      | cons c r =>
        simp only [List.length_cons] at hf hg
        simp only [D]
        split
        · rfl
        · exact ih g _ _ (by rw [List.length_drop]; omega) (by rw [List.length_drop]; omega)
/-- What is handed back behind the last group. -/
def fin (b out : List Int) : List Int × Int := if ((strOfNums (E out)).toList == (strOfNums b).toList) = true then (out, 0) else ([], 2)
def res (b : List Int) (x : Option (List Int)) : List Int × Int := match x with | none => ([], 2) | some out => fin b out
def Dec (b : List Int) : List Int × Int := if b.length = 0 then ([], 3) else if rd b ((b.length : Int) - 1) = 0 then res b (D (b.length + 1) [] (b.take (b.length - 1))) else ([], 3)
theorem dec_l0 (d : Nat) : ∀ (x0 x4 x5 : List Int) (k T : Nat), x5.length ≤ d → x4.length + x5.length ≤ T → 2 * d + 2 * T + 4 ≤ k → isB x4 → isB x5 → T < 70000000000000 →
    cobs_Decode.l0 k x0 x4 x5 = some (res x0 (D (x5.length + 1) x4 x5)) := by
  induction d with
  | zero =>
    intro x0 x4 x5 k T hd hT hk hb4 hb5 hl
    obtain ⟨k, rfl⟩ : ∃ m, k = m + 1 := ⟨k - 1, by omega⟩
    obtain rfl : x5 = [] := List.length_eq_zero_iff.1 (by omega)
    simp only [cobs_Decode.l0]
    rw [if_neg (by simp), enc_tells x4 k (by omega) hb4 (by omega)]
    simp -implicitDefEqProofs only [Option.bind_some, bytes_Equal.f, D, res, fin]
    split <;> rfl
  | succ d ih =>
    intro x0 x4 x5 k T hd hT hk hb4 hb5 hl
    obtain ⟨k, rfl⟩ : ∃ m, k = m + 2 := ⟨k - 2, by omega⟩
    cases x5 with
    | nil => exact ih x0 x4 [] (k + 2) T (by simp) hT (by omega) hb4 hb5 hl
    | cons c r =>
      have hc := hb5 c List.mem_cons_self
      have hbr : isB r := fun x hx => hb5 x (List.mem_cons_of_mem _ hx)
      simp only [List.length_cons] at hd hT
      have hrd : rd (c :: r) 0 = c := rfl
      have hw1 : wrap64 (wrap64 c - 1) = c - 1 := by rw [w64 c c rfl (by omega) (by omega), w64 _ _ rfl (by omega) (by omega)]
      have hw2 : wrap64 (1 + (c - 1)) = c := w64 _ _ (by omega) (by omega) (by omega)
      simp only [cobs_Decode.l0]
      rw [if_pos (by simp only [List.length_cons]; omega), if_pos (by simp only [List.length_cons]; omega), hrd, hw1]
      simp only [D, List.length_cons]
      by_cases h0 : c - 1 < 0
      · rw [if_pos h0, if_pos (by omega)]
        simp only [cobs_Decode.j2]
        rw [if_pos trivial]
        rfl
      rw [if_neg h0]
      by_cases h1 : c - 1 ≥ ((r.length + 1 : Nat) : Int)
      · rw [decide_eq_true h1, if_pos (by omega)]
        simp only [cobs_Decode.j2]
        rw [if_pos trivial]
        rfl
      rw [decide_eq_false h1, if_neg (by omega)]
      obtain ⟨m, rfl⟩ : ∃ m : Nat, c = (m : Int) + 1 := ⟨(c - 1).toNat, by omega⟩
      have em : ((m : Int) + 1 - 1) = (m : Int) := by omega
      have et : ((m : Int) + 1).toNat = m + 1 := by omega
      simp only [em] at hw2 ⊢
      simp only [cobs_Decode.j2]
      rw [if_neg (by simp), hw2, if_pos (by omega), if_pos (by simp only [List.length_cons]; omega)]
      simp -implicitDefEqProofs only [Option.bind_some, et, List.take_succ_cons, List.drop_succ_cons, List.drop_zero, Nat.add_sub_cancel]
      have hlen : (r.take m).length = m := by rw [List.length_take]; omega
      have hlen2 : (r.drop m).length = r.length - m := List.length_drop
      rw [if_pos (by rw [hlen]; omega), if_pos (by omega)]
      by_cases hz : r.drop m = []
      · have hz0 : (r.drop m).length = 0 := by rw [hz]; rfl
        rw [if_neg (by omega), if_neg (fun h => h.1 hz)]
        rw [ih x0 (x4 ++ r.take m) (r.drop m) k T (by omega) (by rw [List.length_append, hlen]; omega) (by omega) (fun x hx => (List.mem_append.1 hx).elim (hb4 x) (fun h => hbr x (List.mem_of_mem_take h))) (isB_drop hbr m) hl]
        rw [List.append_nil, D_more ((r.drop m).length + 1) (r.length + 1) _ _ (by omega) (by omega)]
      · have hz0 : 0 < (r.drop m).length := List.length_pos_iff.2 hz
        rw [if_pos (by omega)]
        by_cases h254 : (m : Int) < 254
        · rw [if_pos h254, if_pos (by rw [List.length_append, hlen]; omega), if_pos ⟨hz, by omega⟩]
          rw [ih x0 (x4 ++ r.take m ++ [0]) (r.drop m) k T (by omega) (by rw [List.length_append, List.length_append, hlen, List.length_singleton]; omega) (by omega) (fun x hx => (List.mem_append.1 hx).elim (fun h => (List.mem_append.1 h).elim (hb4 x) (fun h => hbr x (List.mem_of_mem_take h))) (fun h => by rw [List.mem_singleton.1 h]; exact ⟨by omega, by omega⟩)) (isB_drop hbr m) hl]
          rw [D_more ((r.drop m).length + 1) (r.length + 1) _ _ (by omega) (by omega)]
        · rw [if_neg h254, if_neg (fun h => h254 (by omega))]
          rw [ih x0 (x4 ++ r.take m) (r.drop m) k T (by omega) (by rw [List.length_append, hlen]; omega) (by omega) (fun x hx => (List.mem_append.1 hx).elim (hb4 x) (fun h => hbr x (List.mem_of_mem_take h))) (isB_drop hbr m) hl]
          rw [List.append_nil, D_more ((r.drop m).length + 1) (r.length + 1) _ _ (by omega) (by omega)]
theorem dec_tells (b : List Int) (k : Nat) (hk : 4 * b.length + 10 ≤ k) (hb : isB b) (hl : b.length < 70000000000000) : cobs_Decode.f k b = some (Dec b) := by
  obtain ⟨k, rfl⟩ : ∃ m, k = m + 1 := ⟨k - 1, by omega⟩
  unfold cobs_Decode.f Dec
  by_cases h0 : b.length = 0
  · rw [if_pos (by omega), if_pos h0]
    simp only [cobs_Decode.j0]
    rw [if_pos trivial]
  · have hw : wrap64 ((b.length : Int) - 1) = (b.length : Int) - 1 := w64 _ _ (by omega) (by omega) (by omega)
    rw [if_neg (by omega), if_neg h0, hw, if_pos (by omega), if_pos (by omega)]
    by_cases hr : rd b ((b.length : Int) - 1) = 0
    · rw [if_pos hr, hr]
      simp only [cobs_Decode.j0]
      rw [if_neg (by simp), hw, if_pos (by omega), if_pos (by omega)]
      have et : ((b.length : Int) - 1).toNat = b.length - 1 := by omega
      rw [et, dec_l0 b.length b [] (b.take (b.length - 1)) k b.length (by rw [List.length_take]; omega) (by simp only [List.length_nil, List.length_take]; omega) (by omega) (fun x hx => by simp at hx) (isB_take hb _) hl]
      rw [D_more _ (b.length + 1) _ _ (Nat.lt_succ_self _) (by rw [List.length_take]; omega)]
    · rw [if_neg hr]
      have : (rd b ((b.length : Int) - 1) != 0) = true := by simpa using hr
      rw [this]
      simp only [cobs_Decode.j0]
      rw [if_pos trivial]
/-! ### the reference -/
theorem ref_dec_l0 (d : Nat) : ∀ (x0 x4 : List Int) (at_ r k T : Nat), x0.length = at_ + r + 1 → r ≤ d → x4.length + r ≤ T → 2 * d + 4 * T + 6 ≤ k → isB x4 → isB x0 → T < 30000000000000 → x0.length < 70000000000000 →
    trickleref03_Decode.l0 k x0 x4 at_ = some (res x0 (D (r + 1) x4 ((x0.take (x0.length - 1)).drop at_))) := by
  induction d with
  | zero =>
    intro x0 x4 at_ r k T hx hr hT hk hb4 hb0 hl hl0
    obtain ⟨k, rfl⟩ : ∃ m, k = m + 1 := ⟨k - 1, by omega⟩
    obtain rfl : r = 0 := by omega
    have hd : (x0.take (x0.length - 1)).drop at_ = [] := List.drop_of_length_le (by rw [List.length_take]; omega)
    simp only [trickleref03_Decode.l0]
    rw [w64_pred x0 at_ hx (by omega), if_neg (by omega), ref_enc_tells x4 k (by omega) (by omega), hd]
    simp -implicitDefEqProofs only [Option.bind_some, trickleref03_Same.f, D, res, fin]
    split <;> rfl
  | succ d ih =>
    intro x0 x4 at_ r k T hx hr hT hk hb4 hb0 hl hl0
    by_cases hz : r = 0
    · exact ih x0 x4 at_ r k T hx (by omega) hT (by omega) hb4 hb0 hl hl0
    obtain ⟨k, rfl⟩ : ∃ m, k = m + 2 := ⟨k - 2, by omega⟩
    have hpr : at_ + r < 1000000000000000 := by omega
    have hgl : (x0.take (x0.length - 1)).length = at_ + r := by rw [List.length_take]; omega
    obtain ⟨c, hc⟩ : ∃ c, c = rd x0 (at_ : Int) := ⟨_, rfl⟩
    have hcg : x0[at_]? = some c := by
      rw [hc]
      unfold rd
      rw [Int.toNat_natCast, List.getD_eq_getElem?_getD, List.getElem?_eq_getElem (by omega)]
      rfl
    have hcb : 0 ≤ c ∧ c ≤ 255 := hb0 c (List.mem_of_getElem? hcg)
    have hcons : (x0.take (x0.length - 1)).drop at_ = c :: (x0.take (x0.length - 1)).drop (at_ + 1) := by
      rw [List.drop_eq_getElem_cons (by omega)]
      congr 1
      have h1 : (x0.take (x0.length - 1))[at_]? = some c := by rw [List.getElem?_take_of_lt (by omega)]; exact hcg
      rw [List.getElem?_eq_getElem (by omega)] at h1
      exact Option.some.inj h1
    have hrl : ((x0.take (x0.length - 1)).drop (at_ + 1)).length + 1 = r := by rw [List.length_drop]; omega
    simp only [trickleref03_Decode.l0]
    rw [w64_pred x0 (at_ + r) hx hpr, if_pos (by omega), if_pos (by omega), if_pos (by omega), ← hc, w64 c c rfl (by omega) (by omega), hcons]
    generalize hg : (x0.take (x0.length - 1)).drop (at_ + 1) = g at *
    clear hc hcg hcons
    simp only [D]
    by_cases h0 : c = 0
    · rw [if_pos h0, if_pos (.inl h0)]
      simp only [trickleref03_Decode.j2]
      rw [if_pos trivial]
      rfl
    rw [if_neg h0]
    obtain ⟨m, rfl⟩ : ∃ m : Nat, c = (m : Int) + 1 := ⟨(c - 1).toNat, by omega⟩
    have hm255 : m < 255 := by omega
    have hsm : at_ + m < 1000000000000000 := by omega
    have hsa : at_ < 1000000000000000 := by omega
    have et : ((m : Int) + 1).toNat = m + 1 := by omega
    rw [w64_step at_ m hsm]
    by_cases h1 : ((at_ + m + 1 : Nat) : Int) > ((at_ + r : Nat) : Int)
    · rw [decide_eq_true h1, if_pos (by omega)]
      simp only [trickleref03_Decode.j2]
      rw [if_pos trivial]
      rfl
    rw [decide_eq_false h1]
    rw [if_neg (by omega)]
    simp only [trickleref03_Decode.j2]
    rw [if_neg (by simp), w64_step at_ m hsm, w64_one at_ hsa, w64_pred x0 (at_ + r) hx hpr, if_pos (by omega), if_pos (by omega), if_pos (by omega)]
    have hmid : (x0.take (at_ + m + 1)).drop (at_ + 1) = g.take m := by
      rw [← hg, List.drop_take, List.drop_take, List.take_take]
      congr 1
      omega
    simp -implicitDefEqProofs only [Option.bind_some, et, Int.toNat_natCast, Nat.add_sub_cancel, hmid]
    have hlen : (g.take m).length = m := by rw [List.length_take]; omega
    have hlen2 : (g.drop m).length + m + 1 = r := by rw [List.length_drop]; omega
    have hgd : g.drop m = (x0.take (x0.length - 1)).drop (at_ + m + 1) := by rw [← hg, List.drop_drop]; congr 1; omega
    have hbg : isB g := by rw [← hg]; exact isB_drop (isB_take hb0 _) _
    rw [if_pos (by rw [hlen]; omega)]
    have hgo : ∀ (out : List Int), isB out → out.length ≤ x4.length + m + 1 → trickleref03_Decode.l0 k x0 out ((at_ + m + 1 : Nat) : Int) = some (res x0 (D r out (g.drop m))) := by
      intro out hbo hol
      rw [ih x0 out (at_ + m + 1) (r - m - 1) k T (by omega) (by omega) (by omega) (by omega) hbo hb0 hl hl0, ← hgd]
      rw [D_more (r - m - 1 + 1) r _ _ (by omega) (by omega)]
    have hb1 : isB (x4 ++ g.take m) := fun x hx => (List.mem_append.1 hx).elim (hb4 x) (fun h => hbg x (List.mem_of_mem_take h))
    have hb2 : isB (x4 ++ g.take m ++ [0]) := fun x hx => (List.mem_append.1 hx).elim (hb1 x) (fun h => by rw [List.mem_singleton.1 h]; exact ⟨by omega, by omega⟩)
    have hl1 : (x4 ++ g.take m).length = x4.length + m := by rw [List.length_append, hlen]
    have hl2 : (x4 ++ g.take m ++ [0]).length = x4.length + m + 1 := by rw [List.length_append, hl1]; rfl
    by_cases h254 : (m : Int) + 1 < 255
    · rw [if_pos h254]
      by_cases hend : g.drop m = []
      · have : (g.drop m).length = 0 := by rw [hend]; rfl
        rw [if_neg (by omega), if_neg (fun h => h.1 hend), List.append_nil]
        exact hgo _ hb1 (by omega)
      · have : 0 < (g.drop m).length := List.length_pos_iff.2 hend
        rw [if_pos (by omega), if_pos (by omega), if_pos ⟨hend, h254⟩]
        exact hgo _ hb2 (by omega)
    · rw [if_neg h254, if_neg (fun h => h254 h.2), List.append_nil]
      exact hgo _ hb1 (by omega)
theorem ref_dec_tells (b : List Int) (k : Nat) (hk : 6 * b.length + 10 ≤ k) (hb : isB b) (hl : b.length < 30000000000000) : trickleref03_Decode.f k b = some (Dec b) := by
  obtain ⟨k, rfl⟩ : ∃ m, k = m + 1 := ⟨k - 1, by omega⟩
  unfold trickleref03_Decode.f Dec
  by_cases h0 : b.length = 0
  · rw [if_pos (by omega), if_pos h0]
    simp only [trickleref03_Decode.j0]
    rw [if_pos trivial]
  · have hw : wrap64 ((b.length : Int) - 1) = (b.length : Int) - 1 := w64 _ _ (by omega) (by omega) (by omega)
    rw [if_neg (by omega), if_neg h0, hw, if_pos (by omega), if_pos (by omega)]
    by_cases hr : rd b ((b.length : Int) - 1) = 0
    · rw [if_pos hr, hr]
      simp only [trickleref03_Decode.j0]
      have h := ref_dec_l0 b.length b [] 0 (b.length - 1) k b.length (by omega) (by omega) (by simp) (by omega) (fun x hx => by simp at hx) hb hl (by omega)
      rw [show ((0 : Nat) : Int) = 0 from rfl, List.drop_zero] at h
      rw [if_neg (by simp), h]
      rw [D_more (b.length - 1 + 1) (b.length + 1) _ _ (by rw [List.length_take]; omega) (by rw [List.length_take]; omega)]
    · rw [if_neg hr]
      have : (rd b ((b.length : Int) - 1) != 0) = true := by simpa using hr
      rw [this]
      simp only [trickleref03_Decode.j0]
      rw [if_pos trivial]
/-- Decode is the inverse of Encode. -/
theorem Dec_E (b : List Int) : Dec (E b) = (b, 0) := by
  have hl : (E b).length = (G (b.length + 1) b).length + 1 := by simp [E]
  have hr : rd (E b) (((E b).length : Int) - 1) = 0 := by
    unfold rd
    rw [List.getD_eq_getElem?_getD, show (((E b).length : Int) - 1).toNat = (G (b.length + 1) b).length by omega]
    simp [E]
  unfold Dec
  rw [if_neg (by omega), if_pos hr]
  have ht : (E b).take ((E b).length - 1) = G (b.length + 1) b := by
    rw [hl, Nat.add_sub_cancel]
    simp [E]
  have hge : b.length + 2 ≤ (E b).length ∨ (E b).length < b.length + 2 := by omega
  rw [ht]
  have h1 := D_G (b.length + 1) (b.length + (E b).length + 5) b [] (by omega) (by omega)
  rw [D_more _ ((E b).length + 1) _ _ (by omega) (by omega)] at h1
  rw [h1, List.nil_append]
  simp [res, fin]
end Go.Proofs.Ytnlpckkaddpieaa.Plain
