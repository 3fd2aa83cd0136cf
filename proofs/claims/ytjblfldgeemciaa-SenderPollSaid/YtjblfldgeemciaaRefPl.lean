/-
  The reference's Poll, told plainly: whatever its state. A plain law.
-/
import Derived.Test.YtjblfldgeemciaaPollZ
import Derived.Test.YtjblfldgeemciaaPq2
set_option linter.unusedVariables false
namespace Go.Proofs.Ytjblfldgeemciaa.RefPl
open Go.RowKit Go.Proofs.YtjblfldgeemciaaW.PrintWords Go.Proofs.YtjblfldgeemciaaW.PrintLast Go.Proofs.Ytjblfldgeemciaa.Sd Go.Proofs.Ytjblfldgeemciaa.CallPl Go.Proofs.Ytjblfldgeemciaa.PollZ
def ent (first : Int) (T : List Int) (S : List Bool) (n : Int) : Int × Bool := if n < first ∨ n ≥ first + S.length then (0, false) else (rd T (n - first), rdOf false S (n - first))
structure RS (F : Int → Option Int) (first win : Int) (T : List Int) (S : List Bool) : Prop where
  len : T.length = S.length
  le : S.length ≤ 65
  f0 : 0 ≤ first
  f1 : first ≤ 2147483648
  tells : ∀ n, F n = if (ent first T S n).2 = true then some (ent first T S n).1 else none
  far : ∀ n t, F n = some t → n < first + win
theorem RS_start (win : Int) (h : 1 ≤ win) : RS (fun _ => none) 0 win [] [] := ⟨rfl, by simp, by omega, by omega, fun n => by
  have e : ent 0 [] [] n = (0, false) := by
    unfold ent
    apply if_pos
    by_cases c : n < 0
    · exact .inl c
    · exact .inr (by simp; omega)
  rw [e]
  rfl, fun n t h => by cases h⟩
section
variable {F : Int → Option Int} {first win retry : Int} {T : List Int} {S : List Bool}
theorem entry_tells (h : RS F first win T S) (k : Nat) (n : Int) (hn : 0 ≤ n ∧ n ≤ 4294967296) : Pq.trickleref45_entry.f (k + 1) win retry first T S n = some (ent first T S n) := by
  have h1 := h.le
  have h2 := h.f0
  have h3 := h.f1
  have h4 := h.len
  unfold Pq.trickleref45_entry.f ent
  simp only [Pq.trickleref45_entry.j0]
  rw [w64 (first + (S.length : Int)) (by omega) (by omega), w64 (n - first) (by omega) (by omega)]
  by_cases c1 : n < first
  · rw [if_pos c1, if_pos trivial, if_pos (.inl c1)]
  · rw [if_neg c1]
    by_cases c2 : n ≥ first + S.length
    · rw [if_pos (decide_eq_true c2), if_pos (.inr c2)]
    · rw [if_neg (by simpa using c2), if_pos (by omega), if_pos (by omega), if_pos (by omega), if_neg (by omega)]
theorem due_tells (h : RS F first win T S) (k : Nat) (n now : Int) (hn : 0 ≤ n ∧ n ≤ 4294967296) (hr : 1 ≤ retry ∧ retry ≤ 1099511627776) (ht : -1099511627776 ≤ now ∧ now ≤ 1099511627776) : Pq.trickleref45_Due.f (k + 1) win retry first T S n now = some (Sd.due F retry n now) := by
  unfold Pq.trickleref45_Due.f Sd.due
  rw [entry_tells h k n hn]
  simp only [Option.bind_some]
  rw [h.tells n, w64 (now - retry) (by omega) (by omega)]
  cases (ent first T S n).2
  · rfl
  · rfl
/-! ### one call -/
/-- Is message i sent? -/
def snd (F : Int → Option Int) (a retry now : Int) (lm i : Nat) : Bool := decide (i < lm) && Sd.due F retry (a + i) now
def ts (F : Int → Option Int) (first : Int) (T : List Int) (S : List Bool) (a retry now : Int) (lm i : Nat) : Int := if snd F a retry now lm i = true then now else (ent first T S (a + i)).1
def ss (F : Int → Option Int) (first : Int) (T : List Int) (S : List Bool) (a retry now : Int) (lm i : Nat) : Bool := if snd F a retry now lm i = true then true else (ent first T S (a + i)).2
def nms (F : Int → Option Int) (a retry now : Int) (lm i : Nat) : List Int := ((List.range i).filter (snd F a retry now lm)).map (fun j : Nat => a + j)
def vls (F : Int → Option Int) (a retry now : Int) (lm : Nat) (l : List Int) (i : Nat) : List Int := ((List.range i).filter (snd F a retry now lm)).map (fun j : Nat => l.getD j 0)
/-- How many rounds. -/
def rnds (first win a : Int) (m : Nat) : Nat := min 65 (max (first + m - a).toNat win.toNat)
theorem lim_iff (win a : Int) (n i : Nat) (hw : 1 ≤ win) (ha : 0 ≤ a) : i < lim win a n ↔ ((i : Int) < win ∧ (i : Int) < n ∧ a + i ≤ 2147483647) := by
  unfold lim
  omega
theorem poll_loop (h : RS F first win T S) (hg : good win retry) (a now : Int) (l : List Int) (ha : 0 ≤ a) (ha2 : a ≤ 2147483648) (hf : first ≤ a) (ht : -1099511627776 ≤ now ∧ now ≤ 1099511627776) (hl : l.length ≤ 1000) (d : Nat) :
    ∀ (k i : Nat), i + d = rnds first win a S.length → 3 * d + 3 ≤ k →
    Pq.trickleref45_Poll.l0 k a l now (nms F a retry now (lim win a l.length) i) (vls F a retry now (lim win a l.length) l i) (a + i) win retry first T S win retry a ((List.range i).map (ts F first T S a retry now (lim win a l.length))) ((List.range i).map (ss F first T S a retry now (lim win a l.length))) =
      some (win, retry, a, (List.range (rnds first win a S.length)).map (ts F first T S a retry now (lim win a l.length)), (List.range (rnds first win a S.length)).map (ss F first T S a retry now (lim win a l.length)), nms F a retry now (lim win a l.length) (rnds first win a S.length), vls F a retry now (lim win a l.length) l (rnds first win a S.length)) := by
  obtain ⟨g1, g2, g3, g4⟩ := hg
  have h1 := h.le
  have h2 := h.f0
  have h3 := h.f1
  induction d with
  | zero =>
    intro k i hi hk
    obtain ⟨k, rfl⟩ : ∃ m, k = m + 2 := ⟨k - 2, by omega⟩
    have hi' : i = rnds first win a S.length := by omega
    have hd := hi'
    unfold rnds at hd
    simp only [Pq.trickleref45_Poll.l0]
    rw [w64 (first + (S.length : Int)) (by omega) (by omega), w64 (a + win) (by omega) (by omega)]
    by_cases c1 : a + (i : Int) < first + (S.length : Int)
    · rw [if_pos c1]
      simp only [Pq.trickleref45_Poll.j1]
      rw [if_pos trivial, w64 (a + (i : Int) - a) (by omega) (by omega), if_pos (by omega), ← hi']
    · rw [if_neg c1]
      simp only [Pq.trickleref45_Poll.j1]
      by_cases c2 : a + (i : Int) < a + win
      · rw [if_pos (decide_eq_true c2), w64 (a + (i : Int) - a) (by omega) (by omega), if_pos (by omega), ← hi']
      · rw [if_neg (by simpa using c2), ← hi']
  | succ d ih =>
    intro k i hi hk
    obtain ⟨k, rfl⟩ : ∃ m, k = m + 3 := ⟨k - 3, by omega⟩
    have hd : i < rnds first win a S.length := by omega
    have hir := hd
    unfold rnds at hd
    have hl65 : rnds first win a S.length ≤ 65 := Nat.min_le_left _ _
    have hnl : (nms F a retry now (lim win a l.length) i).length ≤ i := by
      unfold nms
      rw [List.length_map]
      exact Nat.le_trans (List.length_filter_le _ _) (by simp)
    have hvl : (vls F a retry now (lim win a l.length) l i).length ≤ i := by
      unfold vls
      rw [List.length_map]
      exact Nat.le_trans (List.length_filter_le _ _) (by simp)
    have e1 : wrap64 (a + (i : Int) - a) = (i : Int) := by rw [w64 _ (by omega) (by omega)]; omega
    have e2 : wrap64 (a + (i : Int) + 1) = a + ((i + 1 : Nat) : Int) := by rw [w64 _ (by omega) (by omega)]; omega
    -- the round behind its test
    have key : Pq.trickleref45_Poll.j1 (k + 2) a l now (nms F a retry now (lim win a l.length) i) (vls F a retry now (lim win a l.length) l i) (a + i) true win retry first T S win retry a ((List.range i).map (ts F first T S a retry now (lim win a l.length))) ((List.range i).map (ss F first T S a retry now (lim win a l.length))) =
        Pq.trickleref45_Poll.l0 k a l now (nms F a retry now (lim win a l.length) (i + 1)) (vls F a retry now (lim win a l.length) l (i + 1)) (a + ((i + 1 : Nat) : Int)) win retry first T S win retry a ((List.range (i + 1)).map (ts F first T S a retry now (lim win a l.length))) ((List.range (i + 1)).map (ss F first T S a retry now (lim win a l.length))) := by
      have no : snd F a retry now (lim win a l.length) i = false → ∀ x15 x16, ent first T S (a + i) = (x15, x16) → Pq.trickleref45_Poll.j2 (k + 1) a l now (nms F a retry now (lim win a l.length) i) (vls F a retry now (lim win a l.length) l i) (a + i) x15 x16 i false win retry first T S win retry a ((List.range i).map (ts F first T S a retry now (lim win a l.length))) ((List.range i).map (ss F first T S a retry now (lim win a l.length))) =
        Pq.trickleref45_Poll.l0 k a l now (nms F a retry now (lim win a l.length) (i + 1)) (vls F a retry now (lim win a l.length) l (i + 1)) (a + ((i + 1 : Nat) : Int)) win retry first T S win retry a ((List.range (i + 1)).map (ts F first T S a retry now (lim win a l.length))) ((List.range (i + 1)).map (ss F first T S a retry now (lim win a l.length))) := by
        intro hs x15 x16 he
        simp only [Pq.trickleref45_Poll.j2, Option.bind_some, List.length_map, List.length_range, List.length_cons, List.length_nil]
        rw [if_neg (by simp), if_pos (by omega), if_pos (by omega), e2]
        have q1 : nms F a retry now (lim win a l.length) (i + 1) = nms F a retry now (lim win a l.length) i := by
          unfold nms
          rw [List.range_succ, List.filter_append]
          simp [hs]
        have q2 : vls F a retry now (lim win a l.length) l (i + 1) = vls F a retry now (lim win a l.length) l i := by
          unfold vls
          rw [List.range_succ, List.filter_append]
          simp [hs]
        have q3 : (List.range (i + 1)).map (ts F first T S a retry now (lim win a l.length)) = (List.range i).map (ts F first T S a retry now (lim win a l.length)) ++ [x15] := by
          rw [List.range_succ, List.map_append]
          simp [ts, hs, he]
        have q4 : (List.range (i + 1)).map (ss F first T S a retry now (lim win a l.length)) = (List.range i).map (ss F first T S a retry now (lim win a l.length)) ++ [x16] := by
          rw [List.range_succ, List.map_append]
          simp [ss, hs, he]
        rw [q1, q2, q3, q4]
      simp only [Pq.trickleref45_Poll.j1]
      rw [if_pos trivial, e1, if_neg (by omega), entry_tells h k (a + i) (by omega)]
      simp only [Option.bind_some]
      by_cases c1 : (i : Int) < win
      · rw [if_pos c1]
        by_cases c2 : (i : Int) < (l.length : Int)
        · rw [if_pos c2]
          by_cases c3 : a + (i : Int) ≤ 2147483647
          · rw [if_pos c3, due_tells h k (a + i) now (by omega) ⟨g3, g4⟩ ht]
            simp only [Option.bind_some]
            have hlm : i < lim win a l.length := (lim_iff win a l.length i g1 ha).2 ⟨c1, c2, c3⟩
            cases hdu : Sd.due F retry (a + i) now
            · exact no (by unfold snd; rw [hdu]; simp) _ _ rfl
            · have hs : snd F a retry now (lim win a l.length) i = true := by unfold snd; rw [hdu, decide_eq_true hlm]; rfl
              simp only [Pq.trickleref45_Poll.j2, Option.bind_some, List.length_map, List.length_range, List.length_cons, List.length_nil]
              rw [if_pos trivial, if_pos (by omega), if_pos (by omega), if_pos c2, if_pos (by omega), if_pos (by omega), if_pos (by omega), e2]
              have q1 : nms F a retry now (lim win a l.length) (i + 1) = nms F a retry now (lim win a l.length) i ++ [a + (i : Int)] := by
                unfold nms
                rw [List.range_succ, List.filter_append]
                simp [hs]
              have q2 : vls F a retry now (lim win a l.length) l (i + 1) = vls F a retry now (lim win a l.length) l i ++ [rd l (i : Int)] := by
                unfold vls
                rw [List.range_succ, List.filter_append]
                simp [hs, rd]
              have q3 : (List.range (i + 1)).map (ts F first T S a retry now (lim win a l.length)) = (List.range i).map (ts F first T S a retry now (lim win a l.length)) ++ [now] := by
                rw [List.range_succ, List.map_append]
                simp [ts, hs]
              have q4 : (List.range (i + 1)).map (ss F first T S a retry now (lim win a l.length)) = (List.range i).map (ss F first T S a retry now (lim win a l.length)) ++ [true] := by
                rw [List.range_succ, List.map_append]
                simp [ss, hs]
              rw [q1, q2, q3, q4]
          · rw [if_neg c3]
            exact no (by unfold snd; rw [decide_eq_false (fun q => c3 ((lim_iff win a l.length i g1 ha).1 q).2.2)]; rfl) _ _ rfl
        · rw [if_neg c2]
          exact no (by unfold snd; rw [decide_eq_false (fun q => c2 ((lim_iff win a l.length i g1 ha).1 q).2.1)]; rfl) _ _ rfl
      · rw [if_neg c1]
        exact no (by unfold snd; rw [decide_eq_false (fun q => c1 ((lim_iff win a l.length i g1 ha).1 q).1)]; rfl) _ _ rfl
    have fin := ih k (i + 1) (by omega) (by omega)
    simp only [Pq.trickleref45_Poll.l0]
    rw [w64 (first + (S.length : Int)) (by omega) (by omega), w64 (a + win) (by omega) (by omega)]
    by_cases c1 : a + (i : Int) < first + (S.length : Int)
    · rw [if_pos c1, key]
      exact fin
    · rw [if_neg c1, decide_eq_true (show a + (i : Int) < a + win by omega), key]
      exact fin
theorem poll_tells (h : RS F first win T S) (hg : good win retry) (a now : Int) (l : List Int) (ha : 0 ≤ a) (ha2 : a ≤ 2147483648) (hf : first ≤ a) (ht : -1099511627776 ≤ now ∧ now ≤ 1099511627776) (hl : l.length ≤ 1000) :
    Pq.trickleref45_Poll.f 300 win retry first T S a l now = some (win, retry, a, (List.range (rnds first win a S.length)).map (ts F first T S a retry now (lim win a l.length)), (List.range (rnds first win a S.length)).map (ss F first T S a retry now (lim win a l.length)), nms F a retry now (lim win a l.length) (rnds first win a S.length), vls F a retry now (lim win a l.length) l (rnds first win a S.length)) := by
  have h65 : rnds first win a S.length ≤ 65 := Nat.min_le_left _ _
  have := poll_loop h hg a now l ha ha2 hf ht hl (rnds first win a S.length) 300 0 (by omega) (by omega)
  unfold Pq.trickleref45_Poll.f
  rw [if_neg (by omega)]
  have e : a + ((0 : Nat) : Int) = a := by omega
  rw [e] at this
  exact this
theorem filter_lim (p : Nat → Bool) (lm : Nat) : ∀ M, lm ≤ M → (List.range M).filter (fun i => decide (i < lm) && p i) = (List.range lm).filter p := by
  intro M
  induction M with
  | zero =>
    intro h
    obtain rfl : lm = 0 := by omega
    rfl
  | succ M ih =>
    intro h
    by_cases e : lm = M + 1
    · subst e
      exact List.filter_congr (fun i hi => by rw [decide_eq_true (List.mem_range.1 hi)]; rfl)
    · rw [List.range_succ, List.filter_append, ih (by omega)]
      have : decide (M < lm) = false := decide_eq_false (by omega)
      simp [this]
theorem lim_le (hg : good win retry) (a : Int) (n m : Nat) : lim win a n ≤ rnds first win a m := by
  obtain ⟨g1, g2, g3, g4⟩ := hg
  unfold lim rnds
  omega
/-- The numbers and the values that are sent. -/
def idx (F : Int → Option Int) (a retry now : Int) (lm : Nat) : List Nat := (List.range lm).filter (fun i => Sd.due F retry (a + i) now)
theorem nms_idx (hg : good win retry) (a now : Int) (n m : Nat) : nms F a retry now (lim win a n) (rnds first win a m) = (idx F a retry now (lim win a n)).map (fun j : Nat => a + j) := by
  unfold nms idx snd
  rw [filter_lim _ _ _ (lim_le hg a n m)]
theorem vls_idx (hg : good win retry) (a now : Int) (l : List Int) (n m : Nat) : vls F a retry now (lim win a n) l (rnds first win a m) = (idx F a retry now (lim win a n)).map (fun j : Nat => l.getD j 0) := by
  unfold vls idx snd
  rw [filter_lim _ _ _ (lim_le hg a n m)]
theorem outs_idx (F : Int → Option Int) (a retry now : Int) (l : List Int) (k : Nat) : outs F a retry now l k = (idx F a retry now k).map (fun i : Nat => frm (a + i) (l.getD i 0)) := by
  induction k with
  | zero => rfl
  | succ k ih =>
    unfold outs idx
    rw [List.range_succ, List.filter_append, List.map_append]
    unfold idx at ih
    rw [← ih]
    cases h : Sd.due F retry (a + k) now
    · simp [h]
    · simp [h]
theorem due_cut (a n now : Int) (h : a ≤ n) : Sd.due (cut F a) retry n now = Sd.due F retry n now := by
  unfold Sd.due cut
  rw [if_neg (by omega)]
theorem idx_cut (a now : Int) (lm : Nat) : idx (cut F a) a retry now lm = idx F a retry now lm := by
  unfold idx
  congr 1
  funext i
  exact due_cut a _ now (by omega)
theorem ent_range (f : Nat → Int) (g : Nat → Bool) (a : Int) (M : Nat) (n : Int) : ent a ((List.range M).map f) ((List.range M).map g) n = if n < a ∨ n ≥ a + M then (0, false) else (f (n - a).toNat, g (n - a).toNat) := by
  unfold ent
  rw [List.length_map, List.length_range]
  by_cases c : n < a ∨ n ≥ a + M
  · rw [if_pos c, if_pos c]
  · rw [if_neg c, if_neg c]
    have hl : (n - a).toNat < M := by omega
    unfold rd rdOf
    rw [List.getD_eq_getElem?_getD, List.getD_eq_getElem?_getD]
    simp [hl]
/-- The state behind a call. -/
theorem RS_step (h : RS F first win T S) (hg : good win retry) (a now : Int) (n : Nat) (ha : 0 ≤ a) (ha2 : a ≤ 2147483648) (hf : first ≤ a) :
    RS (aft (cut F a) a retry now (lim win a n)) a win ((List.range (rnds first win a S.length)).map (ts F first T S a retry now (lim win a n))) ((List.range (rnds first win a S.length)).map (ss F first T S a retry now (lim win a n))) := by
  have hlM := lim_le (first := first) hg a n S.length
  have h65 : rnds first win a S.length ≤ 65 := Nat.min_le_left _ _
  have hlw : (lim win a n : Int) ≤ win := by
    have : lim win a n ≤ win.toNat := Nat.le_trans (Nat.min_le_right _ _) (Nat.min_le_left _ _)
    have := hg.1
    omega
  have hwM : win ≤ (rnds first win a S.length : Int) := by
    obtain ⟨g1, g2, g3, g4⟩ := hg
    unfold rnds
    omega
  refine ⟨by simp, by simpa using h65, ha, ha2, fun m => ?_, fun m t hm => ?_⟩
  · rw [ent_range]
    unfold aft
    by_cases c0 : m < a
    · rw [if_neg (by omega), if_pos (show m < a ∨ m ≥ a + (rnds first win a S.length : Int) from .inl c0)]
      unfold cut
      rw [if_pos c0]
      rfl
    · have hcut : cut F a m = F m := by unfold cut; rw [if_neg c0]
      by_cases c1 : m ≥ a + (rnds first win a S.length : Int)
      · rw [if_neg (by omega), if_pos (show m < a ∨ m ≥ a + (rnds first win a S.length : Int) from .inr c1), hcut]
        cases hF : F m with
        | none => rfl
        | some t =>
          have := h.far m t hF
          omega
      · rw [if_neg (show ¬ (m < a ∨ m ≥ a + (rnds first win a S.length : Int)) by omega)]
        have hma : a + ((m - a).toNat : Int) = m := by omega
        unfold ts ss snd
        rw [hma, due_cut a m now (by omega)]
        by_cases c2 : m < a + (lim win a n : Int)
        · have d1 : decide ((m - a).toNat < lim win a n) = true := decide_eq_true (by omega)
          rw [d1]
          cases hd : Sd.due F retry m now
          · rw [if_neg (by simp), hcut, h.tells m]
            simp
          · rw [if_pos ⟨by omega, c2, rfl⟩]
            simp
        · have d1 : decide ((m - a).toNat < lim win a n) = false := decide_eq_false (by omega)
          rw [d1, if_neg (by omega), hcut, h.tells m]
          simp
  · unfold aft at hm
    split at hm
    · omega
    · unfold cut at hm
      split at hm
      · cases hm
      · have := h.far m t hm
        omega
/-! ### the comparison -/
theorem matches_loop (I : List Nat) (f : Nat → Int) (v : Nat → Int) (d : Nat) : ∀ (k i : Nat), I.length ≤ 1000 → i + d = I.length → d < k →
    Pr.tricklelaw45_matches.l0 k (I.map f) (I.map v) (I.map (fun i => frm (f i) (v i))) (I.length : Int) i = some true := by
  induction d with
  | zero =>
    intro k i hl hi hk
    obtain ⟨k, rfl⟩ : ∃ m, k = m + 1 := ⟨k - 1, by omega⟩
    simp only [Pr.tricklelaw45_matches.l0]
    rw [if_neg (by omega)]
  | succ d ih =>
    intro k i hl hi hk
    obtain ⟨k, rfl⟩ : ∃ m, k = m + 1 := ⟨k - 1, by omega⟩
    have hlt : i < I.length := by omega
    simp only [Pr.tricklelaw45_matches.l0, List.length_map]
    rw [if_pos (by omega), if_pos (by omega), if_pos (by omega), if_pos (by omega), if_pos (by omega), w64 ((i : Int) + 1) (by omega) (by omega)]
    have e1 : rd (I.map f) (i : Int) = f I[i] := by unfold rd; rw [List.getD_eq_getElem?_getD]; simp [hlt]
    have e2 : rd (I.map v) (i : Int) = v I[i] := by unfold rd; rw [List.getD_eq_getElem?_getD]; simp [hlt]
    have e3 : Pr.rd_T24 (I.map (fun i => frm (f i) (v i))) (i : Int) = frm (f I[i]) (v I[i]) := by unfold Pr.rd_T24; rw [List.getD_eq_getElem?_getD]; simp [hlt]
    rw [e1, e2, e3]
    have e4 : Pr.trickleref43_Data.f (f I[i]) (v I[i]) = some ((frm (f I[i]) (v I[i])).f0, (frm (f I[i]) (v I[i])).f1, (frm (f I[i]) (v I[i])).f2) := rfl
    rw [e4]
    generalize frm (f I[i]) (v I[i]) = y
    have e5 : Pr.trickleref43_Equal.f y.f0 y.f1 y.f2 y.f0 y.f1 y.f2 = some true := by
      unfold Pr.trickleref43_Equal.f
      rw [if_pos rfl, if_pos rfl]
      simp
    simp only [Option.bind_some, e5]
    rw [if_pos trivial]
    have := ih k (i + 1) hl (by omega) (by omega)
    rw [show ((i + 1 : Nat) : Int) = (i : Int) + 1 by omega] at this
    exact this
theorem matches_tells (I : List Nat) (f : Nat → Int) (v : Nat → Int) (hl : I.length ≤ 1000) : Pr.tricklelaw45_matches.f 1001 (I.map (fun i => frm (f i) (v i))) (I.map f) (I.map v) = some true := by
  unfold Pr.tricklelaw45_matches.f
  rw [List.length_map, List.length_map, if_pos rfl]
  exact matches_loop I f v I.length 1001 0 hl (by omega) (by omega)
end
end Go.Proofs.Ytjblfldgeemciaa.RefPl
