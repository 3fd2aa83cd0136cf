/-
  What the printed Encode of the program and of the reference tell: the plain encoding.
-/
import Derived.Test.YtnlpckkaddpieaaPr3
import Derived.Test.YtnlpckkaddpieaaPlain
namespace Go.Proofs.Ytnlpckkaddpieaa.Plain
open Go.RowKit Go.Proofs.Ytnlpckkaddpieaa.Pr Go.Proofs.YtnlpckkaddpieaaW.PrintWords Go.Proofs.YtnlpckkaddpieaaW.PrintLast Go.Proofs.YtnlpckkaddpieaaW.PrintMore
theorem isB_of_wf {l : List Int} (h : ∀ x ∈ l, (Lit.int .u8 x).wf = true) : isB l := fun x hx => by
  have := h x hx
  simp [Lit.wf, IntKind.min, IntKind.max, IntKind.signed, IntKind.bits] at this
  omega
theorem index_tells (x0 : List Int) (h : isB x0) : bytes_IndexByte.f (x0.take (min x0.length 254)) 0 = some (if lead 254 x0 < min x0.length 254 then (lead 254 x0 : Int) else -1) := by
  unfold bytes_IndexByte.f
  rw [index_lead _ (isB_take h _), lead_take x0 _ rfl, List.length_take]
  congr 2
  rw [Nat.min_eq_left (by omega)]
theorem code_byte (n : Nat) (h : n ≤ 254) : (wrap64 ((n : Int) + 1)) % 256 = (n : Int) + 1 := by unfold wrap64; omega
theorem enc_l0 (d : Nat) : ∀ (x0 x3 : List Int) (k : Nat), x0.length ≤ d → 2 * d + 2 ≤ k → isB x0 → x3.length + 2 * x0.length + 10 < 140737488355328 → cobs_Encode.l0 k x0 x3 = some (x3 ++ E x0) := by
  induction d with
  | zero =>
    intro x0 x3 k hd hk hb hl
    obtain ⟨k, rfl⟩ : ∃ m, k = m + 2 := ⟨k - 2, by omega⟩
    obtain rfl : x0 = [] := List.length_eq_zero_iff.1 (by omega)
    have h1 : mn (([] : List Int).length : Int) 254 = 0 := by rfl
    simp only [cobs_Encode.l0]
    rw [h1, if_pos (by omega), if_pos (by simp)]
    have h2 : bytes_IndexByte.f (([] : List Int).take (0 : Int).toNat) 0 = some (-1) := by rfl
    rw [h2]
    simp -implicitDefEqProofs only [Option.bind_some]
    rw [if_pos (by omega)]
    simp only [cobs_Encode.j1]
    rw [if_pos (by omega)]
    simp -implicitDefEqProofs only [Option.bind_some]
    rw [if_pos (by omega), if_pos (by simp)]
    simp only [List.take_nil, List.drop_nil, List.length_nil, List.append_nil, List.length_append, List.length_singleton]
    rw [if_pos (by omega), if_pos (by omega), if_pos (by omega)]
    have h3 : E [] = [1, 0] := by rfl
    rw [h3]
    simp [wrap64]
  | succ d ih =>
    intro x0 x3 k hd hk hb hl
    obtain ⟨k, rfl⟩ : ∃ m, k = m + 2 := ⟨k - 2, by omega⟩
    have hn1 := lead_le 254 x0
    have hn2 := lead_len 254 x0
    have hm : mn (x0.length : Int) 254 = ((min x0.length 254 : Nat) : Int) := by unfold mn; split <;> omega
    simp only [cobs_Encode.l0]
    rw [hm, if_pos (by omega), if_pos (by omega), Int.toNat_natCast, index_tells x0 hb]
    simp -implicitDefEqProofs only [Option.bind_some]
    have hj : (if (if lead 254 x0 < min x0.length 254 then (lead 254 x0 : Int) else -1) < 0 then cobs_Encode.j1 (k + 1) x0 x3 ((min x0.length 254 : Nat) : Int) else cobs_Encode.j1 (k + 1) x0 x3 (if lead 254 x0 < min x0.length 254 then (lead 254 x0 : Int) else -1)) = cobs_Encode.j1 (k + 1) x0 x3 (lead 254 x0 : Int) := by
      by_cases h : lead 254 x0 < min x0.length 254
      · have e : (if lead 254 x0 < min x0.length 254 then (lead 254 x0 : Int) else -1) = (lead 254 x0 : Int) := if_pos h
        rw [e, if_neg (by omega)]
      · have e : (if lead 254 x0 < min x0.length 254 then (lead 254 x0 : Int) else -1) = -1 := if_neg h
        have e2 : min x0.length 254 = lead 254 x0 := by omega
        rw [e, if_pos (by omega), e2]
    rw [hj, E_one x0]
    generalize hn : lead 254 x0 = n at *
    simp only [cobs_Encode.j1]
    rw [if_pos (by omega), code_byte n hn1]
    simp -implicitDefEqProofs only [Option.bind_some]
    rw [if_pos (by omega), if_pos (by omega)]
    simp only [Int.toNat_natCast, List.length_append, List.length_singleton, List.length_take, List.length_drop]
    rw [Nat.min_eq_left hn2, if_pos (by omega)]
    by_cases hz : x0.length ≤ n
    · rw [if_pos (by omega), if_pos (by omega), if_pos hz]
      simp [List.append_assoc]
    · rw [if_neg (by omega), if_neg hz]
      by_cases h254 : n < 254
      · rw [if_pos (by omega), if_pos (by omega), if_pos h254, List.drop_drop]
        rw [ih (x0.drop (n + 1)) _ k (by rw [List.length_drop]; omega) (by omega) (isB_drop hb _) (by simp only [List.length_append, List.length_singleton, List.length_take, List.length_drop]; omega)]
        simp [List.append_assoc]
      · rw [if_neg (by omega), if_neg h254]
        rw [ih (x0.drop n) _ k (by rw [List.length_drop]; omega) (by omega) (isB_drop hb _) (by simp only [List.length_append, List.length_singleton, List.length_take, List.length_drop]; omega)]
        simp [List.append_assoc]
theorem enc_tells (b : List Int) (k : Nat) (hk : 2 * b.length + 2 ≤ k) (hb : isB b) (hl : 2 * b.length + 10 < 140737488355328) : cobs_Encode.f k b = some (E b) := by
  unfold cobs_Encode.f
  rw [enc_l0 b.length b [] k (Nat.le_refl _) hk hb (by simpa using hl)]
  rfl
/-! ### the reference -/
/-- The count of one run, from j on. -/
theorem ref_l1 (x0 x3 : List Int) (at_ : Nat) (hat : at_ ≤ x0.length) (hl : x0.length < 140737488355328) (e : Nat) : ∀ (j k : Nat), j + e = lead 254 (x0.drop at_) → e < k →
    trickleref03_Encode.l1 k x0 x3 at_ j = trickleref03_Encode.j2 (k - e - 1) x0 x3 at_ (lead 254 (x0.drop at_) : Int) := by
  have hn1 := lead_le 254 (x0.drop at_)
  have hn2 := lead_len 254 (x0.drop at_)
  rw [List.length_drop] at hn2
  induction e with
  | zero =>
    intro j k hj hk
    obtain ⟨k, rfl⟩ : ∃ m, k = m + 1 := ⟨k - 1, by omega⟩
    have hw : wrap64 ((at_ : Int) + (j : Int)) = ((at_ + j : Nat) : Int) := by unfold wrap64; omega
    simp only [trickleref03_Encode.l1]
    have ej : (j : Int) = (lead 254 (x0.drop at_) : Int) := by omega
    have ek : k + 1 - 0 - 1 = k := by omega
    rw [ek]
    by_cases h254 : j < 254
    · rw [if_pos (by omega), hw]
      by_cases hlt : at_ + j < x0.length
      · rw [if_pos (by omega), if_pos (by omega)]
        have hs := lead_stop 254 (x0.drop at_) (by omega) (by rw [List.length_drop]; omega)
        have hr : rd x0 ((at_ + j : Nat) : Int) = 0 := by
          unfold rd
          rw [Int.toNat_natCast]
          rw [← hj] at hs
          rw [List.getD_eq_getElem?_getD, List.getElem?_drop] at hs
          rw [List.getD_eq_getElem?_getD]
          exact hs
        rw [hr, if_pos rfl, ej]
      · rw [if_neg (by omega), ej]
    · rw [if_neg (by omega), ej]
  | succ e ih =>
    intro j k hj hk
    obtain ⟨k, rfl⟩ : ∃ m, k = m + 1 := ⟨k - 1, by omega⟩
    have hw : wrap64 ((at_ : Int) + (j : Int)) = ((at_ + j : Nat) : Int) := by unfold wrap64; omega
    have hw2 : wrap64 ((j : Int) + 1) = ((j + 1 : Nat) : Int) := by unfold wrap64; omega
    simp only [trickleref03_Encode.l1]
    rw [if_pos (by omega), hw, if_pos (by omega), if_pos (by omega)]
    have hs := lead_nz_at 254 (x0.drop at_) j (by omega)
    have hr : rd x0 ((at_ + j : Nat) : Int) ≠ 0 := by
      unfold rd
      rw [Int.toNat_natCast]
      rw [List.getD_eq_getElem?_getD, List.getElem?_drop] at hs
      rw [List.getD_eq_getElem?_getD]
      exact hs
    rw [if_neg hr, hw2, ih (j + 1) k (by omega) (by omega)]
    congr 1
    omega
/-- One group of the reference, and what is behind it. -/
theorem ref_j2 (x0 x3 : List Int) (at_ n r q : Nat) (hr : x0.length = at_ + r) (hn : n ≤ r) (hn254 : n ≤ 254) (hl : x3.length + 2 * r + 10 < 140737488355328) (hx : x0.length < 140737488355000) :
    trickleref03_Encode.j2 (q + 1) x0 x3 at_ n = (if r = n then some (x3 ++ (((n : Int) + 1) :: ((x0.drop at_).take n ++ [0]))) else if n < 254 then trickleref03_Encode.l0 q x0 (x3 ++ (((n : Int) + 1) :: (x0.drop at_).take n)) ((at_ + n + 1 : Nat) : Int) else trickleref03_Encode.l0 q x0 (x3 ++ (((n : Int) + 1) :: (x0.drop at_).take n)) ((at_ + n : Nat) : Int)) := by
  have hw : wrap64 ((at_ : Int) + (n : Int)) = ((at_ + n : Nat) : Int) := by unfold wrap64; omega
  have hw1 : wrap64 (((at_ + n : Nat) : Int) + 1) = ((at_ + n + 1 : Nat) : Int) := by unfold wrap64; omega
  have ht : (x0.take (at_ + n)).drop at_ = (x0.drop at_).take n := by rw [List.drop_take]; congr 1; omega
  have hlen : ((x0.drop at_).take n).length = n := by rw [List.length_take, List.length_drop]; omega
  clear hx
  simp only [trickleref03_Encode.j2]
  generalize (140737488355328 : Nat) = M at hl ⊢
  rw [if_pos (by omega), code_byte n hn254]
  simp -implicitDefEqProofs only [Option.bind_some]
  rw [if_pos (by omega), hw, if_pos (by omega), if_pos (by omega)]
  simp only [Int.toNat_natCast, ht, List.length_append, List.length_singleton, hlen]
  rw [if_pos (by omega)]
  by_cases hz : r = n
  · rw [if_pos (by omega), if_pos (by omega), if_pos hz]
    simp [List.append_assoc]
  · rw [if_neg (by omega), if_neg hz, hw1]
    by_cases h254 : n < 254
    · rw [if_pos (by omega), if_pos h254]
      simp [List.append_assoc]
    · rw [if_neg (by omega), if_neg h254]
      simp [List.append_assoc]
theorem ref_l0 (d : Nat) : ∀ (x0 x3 : List Int) (at_ r k : Nat), x0.length = at_ + r → r ≤ d → 4 * r + 4 ≤ k → x3.length + 2 * r + 10 < 140737488355328 → x0.length < 140737488355000 →
    trickleref03_Encode.l0 k x0 x3 at_ = some (x3 ++ E (x0.drop at_)) := by
  induction d with
  | zero =>
    intro x0 x3 at_ r k hr hd hk hl hx
    obtain ⟨k, rfl⟩ : ∃ m, k = m + 3 := ⟨k - 3, by omega⟩
    obtain rfl : r = 0 := by omega
    have h0 : x0.drop at_ = [] := List.drop_of_length_le (by omega)
    have h1 : lead 254 (x0.drop at_) = 0 := by rw [h0]; rfl
    have h := ref_l1 x0 x3 at_ (by omega) (by omega) 0 0 (k + 2) (by omega) (by omega)
    simp only [trickleref03_Encode.l0]
    rw [show ((0 : Nat) : Int) = 0 from rfl, h1] at h
    rw [h, show k + 2 - 0 - 1 = k + 1 by omega, ref_j2 x0 x3 at_ 0 0 k hr (by omega) (by omega) hl hx, if_pos rfl, h0]
    rfl
  | succ d ih =>
    intro x0 x3 at_ r k hr hd hk hl hx
    have hn1 := lead_le 254 (x0.drop at_)
    have hn2 := lead_len 254 (x0.drop at_)
    have hdl : (x0.drop at_).length = r := by rw [List.length_drop]; omega
    rw [hdl] at hn2
    obtain ⟨k, rfl⟩ : ∃ m, k = m + 1 := ⟨k - 1, by omega⟩
    have h := ref_l1 x0 x3 at_ (by omega) (by omega) (lead 254 (x0.drop at_)) 0 k (by omega) (by omega)
    simp only [trickleref03_Encode.l0]
    rw [show ((0 : Nat) : Int) = 0 from rfl] at h
    rw [h, E_one (x0.drop at_), hdl]
    clear h
    generalize lead 254 (x0.drop at_) = n at *
    obtain ⟨q, hq⟩ : ∃ q, k - n - 1 = q + 1 := ⟨k - n - 2, by omega⟩
    rw [hq, ref_j2 x0 x3 at_ n r q hr hn2 hn1 hl hx]
    have hlen : ((x0.drop at_).take n).length = n := by rw [List.length_take, hdl]; omega
    have hbig : ∀ m, 1 ≤ n + m → n + m ≤ r → (x3 ++ (((n : Int) + 1) :: (x0.drop at_).take n)).length + 2 * (r - n - m) + 10 < 140737488355328 := by
      intro m hm hm2
      rw [List.length_append, List.length_cons, hlen]
      omega
    by_cases hz : r = n
    · rw [if_pos hz, if_pos (show r ≤ n by omega)]
    · rw [if_neg hz, if_neg (show ¬ r ≤ n by omega)]
      by_cases h254 : n < 254
      · rw [if_pos h254, if_pos h254]
        have := ih x0 (x3 ++ (((n : Int) + 1) :: (x0.drop at_).take n)) (at_ + n + 1) (r - n - 1) q (by omega) (by omega) (by omega) (hbig 1 (by omega) (by omega)) hx
        rw [this, List.drop_drop, List.append_assoc, List.cons_append, Nat.add_assoc]
      · rw [if_neg h254, if_neg h254]
        have := ih x0 (x3 ++ (((n : Int) + 1) :: (x0.drop at_).take n)) (at_ + n) (r - n - 0) q (by omega) (by omega) (by omega) (hbig 0 (by omega) (by omega)) hx
        rw [this, List.drop_drop, List.append_assoc, List.cons_append]
theorem ref_enc_tells (b : List Int) (k : Nat) (hk : 4 * b.length + 4 ≤ k) (hl : 2 * b.length + 10 < 140737488355000) : trickleref03_Encode.f k b = some (E b) := by
  unfold trickleref03_Encode.f
  have := ref_l0 b.length b [] 0 b.length k (by omega) (by omega) hk (by simp; omega) (by omega)
  rw [show ((0 : Nat) : Int) = 0 from rfl] at this
  rw [this]
  rfl
theorem same_refl (b : List Int) : trickleref03_Same.f b b = some true := by
  unfold trickleref03_Same.f
  simp
end Go.Proofs.Ytnlpckkaddpieaa.Plain
