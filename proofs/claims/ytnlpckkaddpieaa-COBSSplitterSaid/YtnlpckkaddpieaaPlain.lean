/-
  The plain law of the COBS encoding: lists of whole numbers alone.
-/
import Derived.Lib.Bytealg
import Derived.Lib.Bytes
namespace Go.Proofs.Ytnlpckkaddpieaa.Plain
/-- The length of the run of at most m nonzero numbers at the head. -/
def lead : Nat → List Int → Nat
  | 0, _ => 0
  | _ + 1, [] => 0
  | m + 1, x :: xs => if x = 0 then 0 else lead m xs + 1
theorem lead_le (m : Nat) (l : List Int) : lead m l ≤ m := by
  induction m generalizing l with
  | zero => simp [lead]
  | succ m ih =>
    cases l with
    | nil => simp [lead]
    | cons x xs =>
      simp only [lead]
      split
      · omega
      · have := ih xs; omega
theorem lead_len (m : Nat) (l : List Int) : lead m l ≤ l.length := by
  induction m generalizing l with
  | zero => simp [lead]
  | succ m ih =>
    cases l with
    | nil => simp [lead]
    | cons x xs =>
      simp only [lead, List.length_cons]
      split
      · omega
      · have := ih xs; omega
theorem lead_nz (m : Nat) (l : List Int) : ∀ x ∈ l.take (lead m l), x ≠ 0 := by
  induction m generalizing l with
  | zero => simp [lead]
  | succ m ih =>
    cases l with
    | nil => simp [lead]
    | cons x xs =>
      simp only [lead]
      split
      · simp
      · rename_i hx
        intro y hy
        simp only [List.take_succ_cons, List.mem_cons] at hy
        rcases hy with rfl | hy
        · exact hx
        · exact ih xs y hy
theorem lead_nz_at (m : Nat) (l : List Int) (i : Nat) (h : i < lead m l) : l.getD i 0 ≠ 0 := by
  have hl := lead_len m l
  have : l.getD i 0 ∈ l.take (lead m l) := by
    rw [List.getD_eq_getElem?_getD, List.getElem?_eq_getElem (by omega)]
    simp only [Option.getD_some]
    rw [List.mem_take_iff_getElem]
    exact ⟨i, by omega, rfl⟩
  exact lead_nz m l _ this
theorem lead_stop (m : Nat) (l : List Int) (h1 : lead m l < m) (h2 : lead m l < l.length) : l.getD (lead m l) 0 = 0 := by
  induction m generalizing l with
  | zero => omega
  | succ m ih =>
    cases l with
    | nil => simp at h2
    | cons x xs =>
      simp only [lead] at h1 h2 ⊢
      split
      · rename_i hx; simp [hx]
      · rename_i hx
        rw [if_neg hx] at h1 h2
        simp only [List.length_cons] at h2
        simpa using ih xs (by omega) (by omega)
/-- A run is known by its two sides. -/
theorem lead_eq (m : Nat) (l : List Int) (n : Nat) (hm : n ≤ m) (hl : n ≤ l.length) (hz : ∀ i, i < n → l.getD i 0 ≠ 0) (hs : n < m → n < l.length → l.getD n 0 = 0) : lead m l = n := by
  rcases Nat.lt_trichotomy (lead m l) n with h | h | h
  · exact absurd (lead_stop m l (by omega) (by omega)) (hz _ h)
  · exact h
  · have h1 := lead_le m l
    have h2 := lead_len m l
    exact absurd (hs (by omega) (by omega)) (lead_nz_at m l n h)
/-- The groups of an encoding, without the last zero. -/
def G : Nat → List Int → List Int
  | 0, _ => []
  | f + 1, b => ((lead 254 b : Int) + 1) :: (b.take (lead 254 b) ++ (if b.length ≤ lead 254 b then [] else if lead 254 b < 254 then G f (b.drop (lead 254 b + 1)) else G f (b.drop (lead 254 b))))
def E (b : List Int) : List Int := G (b.length + 1) b ++ [0]
theorem G_more (f g : Nat) (b : List Int) (hf : b.length < f) (hg : b.length < g) : G f b = G g b := by
  induction f generalizing g b with
  | zero => omega
  | succ f ih =>
    cases g with
    | zero => omega
    | succ g =>
      simp only [G]
      congr 2
      split
      · rfl
      · rename_i h
        split
        · exact ih g _ (by rw [List.length_drop]; omega) (by rw [List.length_drop]; omega)
        · exact ih g _ (by rw [List.length_drop]; omega) (by rw [List.length_drop]; omega)
/-- The groups of b, by one round. -/
theorem G_one (b : List Int) : G (b.length + 1) b = ((lead 254 b : Int) + 1) :: (b.take (lead 254 b) ++ (if b.length ≤ lead 254 b then [] else if lead 254 b < 254 then G ((b.drop (lead 254 b + 1)).length + 1) (b.drop (lead 254 b + 1)) else G ((b.drop (lead 254 b)).length + 1) (b.drop (lead 254 b)))) := by
  show G (b.length + 1) b = _
  simp only [G]
  congr 2
  split
  · rfl
  · split
    · exact G_more b.length ((b.drop (lead 254 b + 1)).length + 1) (b.drop (lead 254 b + 1)) (by rw [List.length_drop]; omega) (by omega)
    · exact G_more b.length ((b.drop (lead 254 b)).length + 1) (b.drop (lead 254 b)) (by rw [List.length_drop]; omega) (by omega)
theorem G_pos (f : Nat) (b : List Int) : 0 < f → G f b ≠ [] := by
  cases f with
  | zero => omega
  | succ f => intro _; simp [G]
/-- No zero among the groups; each code at most 255. -/
theorem G_nz (f : Nat) (b : List Int) : ∀ x ∈ G f b, x ≠ 0 := by
  induction f generalizing b with
  | zero => simp [G]
  | succ f ih =>
    intro x hx
    simp only [G, List.mem_cons, List.mem_append] at hx
    rcases hx with rfl | hx | hx
    · omega
    · exact lead_nz 254 b x hx
    · split at hx
      · simp at hx
      · split at hx
        · exact ih _ x hx
        · exact ih _ x hx
theorem G_byte (f : Nat) (b : List Int) (hb : ∀ x ∈ b, 0 ≤ x ∧ x ≤ 255) : ∀ x ∈ G f b, 0 ≤ x ∧ x ≤ 255 := by
  induction f generalizing b with
  | zero => simp [G]
  | succ f ih =>
    intro x hx
    simp only [G, List.mem_cons, List.mem_append] at hx
    rcases hx with rfl | hx | hx
    · have := lead_le 254 b; omega
    · exact hb x (List.mem_of_mem_take hx)
    · split at hx
      · simp at hx
      · split at hx
        · exact ih _ (fun y hy => hb y (List.mem_of_mem_drop hy)) x hx
        · exact ih _ (fun y hy => hb y (List.mem_of_mem_drop hy)) x hx
def size (n : Nat) : Nat := if n = 0 then 2 else n + 1 + (n + 253) / 254
theorem G_len (f : Nat) (b : List Int) (hf : b.length < f) : (G f b).length + 1 ≤ size b.length := by
  induction f generalizing b with
  | zero => omega
  | succ f ih =>
    have h1 := lead_le 254 b
    have h2 := lead_len 254 b
    simp only [G, List.length_cons, List.length_append, List.length_take]
    rw [Nat.min_eq_left h2]
    split
    · simp only [List.length_nil, size]; split <;> omega
    · rename_i h
      split
      · have := ih (b.drop (lead 254 b + 1)) (by rw [List.length_drop]; omega)
        rw [List.length_drop] at this
        simp only [size] at this ⊢
        split at this <;> split <;> omega
      · have := ih (b.drop (lead 254 b)) (by rw [List.length_drop]; omega)
        rw [List.length_drop] at this
        simp only [size] at this ⊢
        split at this <;> split <;> omega
theorem lead_all (m : Nat) (l : List Int) (h : ∀ x ∈ l, x ≠ 0) : lead m l = min m l.length := by
  refine lead_eq m l _ (by omega) (by omega) (fun i hi => ?_) (fun h1 h2 => by omega)
  rw [List.getD_eq_getElem?_getD, List.getElem?_eq_getElem (by omega)]
  exact h _ (List.getElem_mem _)
theorem G_len_nz (f : Nat) (b : List Int) (hf : b.length < f) (hz : ∀ x ∈ b, x ≠ 0) : (G f b).length + 1 = size b.length := by
  induction f generalizing b with
  | zero => omega
  | succ f ih =>
    have h0 := lead_all 254 b hz
    have h2 := lead_len 254 b
    simp only [G, List.length_cons, List.length_append, List.length_take]
    rw [Nat.min_eq_left h2]
    split
    · simp only [List.length_nil, size]; split <;> omega
    · rename_i h
      split
      · omega
      · have := ih (b.drop (lead 254 b)) (by rw [List.length_drop]; omega) (fun x hx => hz x (List.mem_of_mem_drop hx))
        rw [List.length_drop] at this
        simp only [size] at this ⊢
        split at this <;> split <;> omega
/-- One round of the decoder on groups; none: no encoding. -/
def D : Nat → List Int → List Int → Option (List Int)
  | 0, _, _ => none
  | _ + 1, out, [] => some out
  | f + 1, out, c :: r => if c = 0 ∨ (r.length : Int) + 1 < c then none else
      D f (out ++ r.take (c.toNat - 1) ++ (if r.drop (c.toNat - 1) ≠ [] ∧ c < 255 then [0] else [])) (r.drop (c.toNat - 1))
theorem D_G (f g : Nat) (b out : List Int) (hf : b.length < f) (hg : b.length + 1 < g) : D g out (G f b) = some (out ++ b) := by
  induction f generalizing b out g with
  | zero => omega
  | succ f ih =>
    cases g with
    | zero => omega
    | succ g =>
      have h1 := lead_le 254 b
      have h2 := lead_len 254 b
      generalize hn : lead 254 b = n at *
      have ht : ((n : Int) + 1).toNat - 1 = n := by omega
      have hlt : (b.take n).length = n := by rw [List.length_take]; omega
      simp only [G, hn, D]
      rw [if_neg (by simp only [List.length_append, hlt]; omega), ht, List.take_append_of_le_length (by omega), List.drop_append_of_le_length (by omega), List.take_of_length_le (by omega), List.drop_of_length_le (l := b.take n) (by omega), List.nil_append]
      by_cases hb : b.length ≤ n
      · rw [if_pos hb]
        cases g with
        | zero => omega
        | succ g => simp [D, List.take_of_length_le hb]
      · rw [if_neg hb]
        by_cases h254 : n < 254
        · rw [if_pos h254, if_pos ⟨G_pos f _ (by omega), by omega⟩, ih g _ _ (by rw [List.length_drop]; omega) (by rw [List.length_drop]; omega)]
          have hz := lead_stop 254 b (by omega) (by omega)
          rw [hn, List.getD_eq_getElem?_getD, List.getElem?_eq_getElem (by omega)] at hz
          simp only [Option.getD_some] at hz
          have h3 : b.drop n = 0 :: b.drop (n + 1) := by rw [List.drop_eq_getElem_cons (by omega), hz]
          congr 1
          have h4 : b = b.take n ++ 0 :: b.drop (n + 1) := by rw [← h3, List.take_append_drop]
          conv => rhs; rw [h4]
          simp [List.append_assoc]
        · rw [if_neg h254, if_neg (by omega), ih g _ _ (by rw [List.length_drop]; omega) (by rw [List.length_drop]; omega)]
          simp [List.append_assoc, List.take_append_drop]
theorem E_one (b : List Int) : E b = ((lead 254 b : Int) + 1) :: (b.take (lead 254 b) ++ (if b.length ≤ lead 254 b then [0] else if lead 254 b < 254 then E (b.drop (lead 254 b + 1)) else E (b.drop (lead 254 b)))) := by
  unfold E
  rw [G_one b]
  split
  · simp
  · split <;> simp
theorem E_len (b : List Int) : (E b).length ≤ size b.length := by
  unfold E
  have := G_len (b.length + 1) b (by omega)
  simpa using this
theorem size_le (n : Nat) : size n ≤ 2 * n + 2 := by unfold size; split <;> omega
def isB (l : List Int) : Prop := ∀ x ∈ l, 0 ≤ x ∧ x ≤ 255
theorem isB_take {l : List Int} (h : isB l) (n : Nat) : isB (l.take n) := fun x hx => h x (List.mem_of_mem_take hx)
theorem isB_drop {l : List Int} (h : isB l) (n : Nat) : isB (l.drop n) := fun x hx => h x (List.mem_of_mem_drop hx)
theorem isB_E {b : List Int} (h : isB b) : isB (E b) := by
  intro x hx
  unfold E at hx
  rcases List.mem_append.1 hx with hx | hx
  · exact G_byte _ _ h x hx
  · have : x = 0 := by simpa using hx
    omega
/-- A run of at most 254 is the run of the first 254. -/
theorem lead_take (l : List Int) (m : Nat) (hm : m = min l.length 254) : lead (l.take m).length (l.take m) = lead 254 l := by
  have h1 := lead_le 254 l
  have h2 := lead_len 254 l
  have hl : (l.take m).length = m := by rw [List.length_take]; omega
  refine lead_eq _ _ _ (by omega) (by omega) (fun i hi => ?_) (fun h3 h4 => ?_)
  · have := lead_nz_at 254 l i hi
    rwa [List.getD_eq_getElem?_getD, List.getElem?_take_of_lt (by omega), ← List.getD_eq_getElem?_getD]
  · have := lead_stop 254 l (by omega) (by omega)
    rwa [List.getD_eq_getElem?_getD, List.getElem?_take_of_lt (by omega), ← List.getD_eq_getElem?_getD]
theorem index_lead (l : List Int) (h : isB l) : Go.Lib.indexByte (Go.Lib.bytesOf l) (0 : Int).toNat.toUInt8 = if lead l.length l < l.length then (lead l.length l : Int) else -1 := by
  induction l with
  | nil => simp [Go.Lib.bytesOf, Go.Lib.indexByte, lead]
  | cons x xs ih =>
    have ih := ih (fun y hy => h y (List.mem_cons_of_mem _ hy))
    have hx := h x (List.mem_cons_self)
    have e : Go.Lib.bytesOf (x :: xs) = UInt8.ofNat x.toNat :: Go.Lib.bytesOf xs := rfl
    rw [e]
    simp only [Go.Lib.indexByte, List.length_cons, lead]
    rw [ih]
    have hz : (UInt8.ofNat x.toNat == (0 : Int).toNat.toUInt8) = decide (x = 0) := by
      rw [Bool.eq_iff_iff]
      simp only [beq_iff_eq, decide_eq_true_eq]
      constructor
      · intro h1
        have h2 := congrArg UInt8.toNat h1
        have h3 : (UInt8.ofNat x.toNat).toNat = x.toNat % 256 := by simp
        have h4 : ((0 : Int).toNat.toUInt8).toNat = 0 := by rfl
        rw [h3, h4] at h2
        omega
      · rintro rfl
        rfl
    rw [hz]
    have hle := lead_le xs.length xs
    by_cases hx0 : x = 0
    · simp [hx0]
    · simp only [hx0, decide_false, Bool.false_eq_true, if_false]
      generalize lead xs.length xs = n at *
      by_cases hlt : n < xs.length
      · have e1 : (if n < xs.length then (n : Int) else -1) = n := if_pos hlt
        have e2 : (if n + 1 < xs.length + 1 then ((n + 1 : Nat) : Int) else -1) = n + 1 := by rw [if_pos (by omega)]; omega
        have e3 : ((n : Int) == -1) = false := by rw [beq_eq_false_iff_ne]; omega
        rw [e1, e2, e3]
        simp
      · have e1 : (if n < xs.length then (n : Int) else -1) = -1 := if_neg hlt
        have e2 : (if n + 1 < xs.length + 1 then ((n + 1 : Nat) : Int) else -1) = -1 := if_neg (by omega)
        rw [e1, e2]
        rfl
end Go.Proofs.Ytnlpckkaddpieaa.Plain
