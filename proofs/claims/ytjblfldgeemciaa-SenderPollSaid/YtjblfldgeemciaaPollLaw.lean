/-
  SenderPoll: whatever the window, the retry time and the calls.
-/
import Derived.Test.YtjblfldgeemciaaRefPl
import Derived.Test.YtjblfldgeemciaaPq3
import Derived.Deep.RegionHeld3
set_option linter.unusedVariables false
namespace Go.Proofs.Ytjblfldgeemciaa.PollLaw
open Go.RowKit Go.ChangeShapes Go.WideShapes Go.ChangeAt Go.Maps Go.Proofs.YtjblfldgeemciaaW.PrintWords Go.Proofs.YtjblfldgeemciaaW.PrintLast Go.Proofs.Ytjblfldgeemciaa.Pr Go.Proofs.Ytjblfldgeemciaa.Sd Go.Proofs.Ytjblfldgeemciaa.CallPl Go.Proofs.Ytjblfldgeemciaa.PollZ Go.Proofs.Ytjblfldgeemciaa.RefPl
theorem newref_good (win retry : Int) (h : good win retry) : trickleref45_New.f win retry = some (win, retry, 0, [], [], true) := by
  unfold good at h
  unfold trickleref45_New.f
  rw [if_pos (by omega), if_pos (by omega), if_pos (by omega), decide_eq_true (by omega)]
theorem newref_bad (win retry : Int) (h : ¬ good win retry) : trickleref45_New.f win retry = some (win, retry, 0, [], [], false) := by
  unfold good at h
  unfold trickleref45_New.f
  by_cases h1 : win ≥ 1
  · rw [if_pos h1]
    by_cases h2 : win ≤ 32
    · rw [if_pos h2]
      by_cases h3 : retry ≥ 1
      · rw [if_pos h3, decide_eq_false (by omega)]
      · rw [if_neg h3]
    · rw [if_neg h2]
  · rw [if_neg h1]
set_option maxHeartbeats 1000000 in
set_option maxRecDepth 100000 in
theorem refneg (win retry first a now : Int) (A3 A4 A2 : Option Addr) (n3 c3 n4 c4 n2 c2 : Nat) (w : World) (ha : a < 0) :
    Calls Try.prog 21 #[.agg #[.int .i64 win, .int .i64 retry, .int .i64 first, .slice A3 n3 c3, .slice A4 n4 c4], .int .i64 a, .slice A2 n2 c2, .int .i64 now] w fun e w' => e = .returned (.tuple #[.agg #[.int .i64 win, .int .i64 retry, .int .i64 first, .slice A3 n3 c3, .slice A4 n4 c4], .slice (some ⟨w.heap.size + 1 + 1, 0, none⟩) 0 0, .slice (some ⟨w.heap.size + 1 + 1 + 1, 0, none⟩) 0 0]) ∧ w' = (((w.alloc (.cells #[.int .i64 win, .int .i64 retry, .int .i64 first, .slice A3 n3 c3, .slice A4 n4 c4] 36)).alloc (.cells #[.int .i64 win, .int .i64 retry, .int .i64 first, .slice A3 n3 c3, .slice A4 n4 c4] 36)).alloc (.cells #[] 2)).alloc (.cells #[] 49) := by
  go_enter Try.func21, Try.ntmps21
  go_wp2
  refine bodyPost_ret (results_list (rs := [.cell 8 36, .tmp 9, .tmp 10]) rfl (by simp) (.cell (w.heap.size + 1) 36 #[.int .i64 win, .int .i64 retry, .int .i64 first, .slice A3 n3 c3, .slice A4 n4 c4] (0, 0) _ rfl ?_ Try.underlying36 rfl (by kernel_rfl) (.tmp (.tmp .nil)))) rfl ⟨rfl, rfl⟩
  have h := blk_alloc (blk_alloc (blk_new (w.alloc (.cells #[.int .i64 win, .int .i64 retry, .int .i64 first, .slice A3 n3 c3, .slice A4 n4 c4] 36)) (.cells #[.int .i64 win, .int .i64 retry, .int .i64 first, .slice A3 n3 c3, .slice A4 n4 c4] 36)) (.cells #[] 2)) (.cells #[] 49)
  rw [show (w.alloc (.cells #[.int .i64 win, .int .i64 retry, .int .i64 first, .slice A3 n3 c3, .slice A4 n4 c4] 36)).heap.size = w.heap.size + 1 by simp] at h
  exact h
theorem own_empty {α : Type} {d : Kd α} (e : TypeId) {w : World} {b g : Nat} (h : w.heap[g]? = some (.cells #[] e (0, 0))) (hb : b ≤ g) (ok : Nat → Prop) (hok : ok g) : d.R e w b ok (.slice (some ⟨g, 0, none⟩) 0 0) [] :=
  ⟨fun k hk => by have : g = k := by simpa [Value.ownBlock] using hk
                  exact this ▸ hok, [], ⟨by simp, .inr ⟨g, 0, #[], rfl, hb, h, by simp, by simp [maxLen], by simp, by simp⟩⟩, Reps.none _ _⟩
section
variable {w w1 : World} {bm : Nat} {win retry first : Int} {v3 v4 : Value}
theorem ms5 (h : w.heap[bm]? = some (.cells #[.int .i64 win, .int .i64 retry, .int .i64 first, v3, v4] 36 (0, 0))) : w.cell? ⟨bm, 0, none⟩ = some (.int .i64 win) ∧ w.cell? ⟨bm, 1, none⟩ = some (.int .i64 retry) ∧ w.cell? ⟨bm, 2, none⟩ = some (.int .i64 first) ∧ w.cell? ⟨bm, 3, none⟩ = some v3 ∧ w.cell? ⟨bm, 4, none⟩ = some v4 :=
  ⟨(blk_cell h 0).trans rfl, (blk_cell h 1).trans rfl, (blk_cell h 2).trans rfl, (blk_cell h 3).trans rfl, (blk_cell h 4).trans rfl⟩
theorem ms5_below (h : w.cell? ⟨bm, 0, none⟩ = some (.int .i64 win) ∧ w.cell? ⟨bm, 1, none⟩ = some (.int .i64 retry) ∧ w.cell? ⟨bm, 2, none⟩ = some (.int .i64 first) ∧ w.cell? ⟨bm, 3, none⟩ = some v3 ∧ w.cell? ⟨bm, 4, none⟩ = some v4) (hb : Below w.heap.size w w1) :
    w1.cell? ⟨bm, 0, none⟩ = some (.int .i64 win) ∧ w1.cell? ⟨bm, 1, none⟩ = some (.int .i64 retry) ∧ w1.cell? ⟨bm, 2, none⟩ = some (.int .i64 first) ∧ w1.cell? ⟨bm, 3, none⟩ = some v3 ∧ w1.cell? ⟨bm, 4, none⟩ = some v4 :=
  ⟨pw_cell_below hb h.1, pw_cell_below hb h.2.1, pw_cell_below hb h.2.2.1, pw_cell_below hb h.2.2.2.1, pw_cell_below hb h.2.2.2.2⟩
theorem ms5_set5 {z : Nat} {u0 u1 u2 u3 u4 : Value} (h : w.cell? ⟨bm, 0, none⟩ = some (.int .i64 win) ∧ w.cell? ⟨bm, 1, none⟩ = some (.int .i64 retry) ∧ w.cell? ⟨bm, 2, none⟩ = some (.int .i64 first) ∧ w.cell? ⟨bm, 3, none⟩ = some v3 ∧ w.cell? ⟨bm, 4, none⟩ = some v4) (hz : bm ≠ z) :
    (((((w.setCell ⟨z, 0, none⟩ u0).setCell ⟨z, 1, none⟩ u1).setCell ⟨z, 2, none⟩ u2).setCell ⟨z, 3, none⟩ u3).setCell ⟨z, 4, none⟩ u4).cell? ⟨bm, 0, none⟩ = some (.int .i64 win) ∧ (((((w.setCell ⟨z, 0, none⟩ u0).setCell ⟨z, 1, none⟩ u1).setCell ⟨z, 2, none⟩ u2).setCell ⟨z, 3, none⟩ u3).setCell ⟨z, 4, none⟩ u4).cell? ⟨bm, 1, none⟩ = some (.int .i64 retry) ∧ (((((w.setCell ⟨z, 0, none⟩ u0).setCell ⟨z, 1, none⟩ u1).setCell ⟨z, 2, none⟩ u2).setCell ⟨z, 3, none⟩ u3).setCell ⟨z, 4, none⟩ u4).cell? ⟨bm, 2, none⟩ = some (.int .i64 first) ∧ (((((w.setCell ⟨z, 0, none⟩ u0).setCell ⟨z, 1, none⟩ u1).setCell ⟨z, 2, none⟩ u2).setCell ⟨z, 3, none⟩ u3).setCell ⟨z, 4, none⟩ u4).cell? ⟨bm, 3, none⟩ = some v3 ∧ (((((w.setCell ⟨z, 0, none⟩ u0).setCell ⟨z, 1, none⟩ u1).setCell ⟨z, 2, none⟩ u2).setCell ⟨z, 3, none⟩ u3).setCell ⟨z, 4, none⟩ u4).cell? ⟨bm, 4, none⟩ = some v4 := by
  obtain ⟨h0, h1, h2, h3, h4⟩ := h
  refine ⟨?_, ?_, ?_, ?_, ?_⟩ <;> (rw [cell_far hz, cell_far hz, cell_far hz, cell_far hz, cell_far hz]; assumption)
theorem cs4_set5 {bt z : Nat} {a cn t : Int} {rs : Bool} {u0 u1 u2 u3 u4 : Value} (h : w.cell? ⟨bt, 0, none⟩ = some (.int .i64 a) ∧ w.cell? ⟨bt, 1, none⟩ = some (.int .u8 cn) ∧ w.cell? ⟨bt, 2, none⟩ = some (.int .i64 t) ∧ w.cell? ⟨bt, 3, none⟩ = some (.bool rs)) (hz : bt ≠ z) :
    (((((w.setCell ⟨z, 0, none⟩ u0).setCell ⟨z, 1, none⟩ u1).setCell ⟨z, 2, none⟩ u2).setCell ⟨z, 3, none⟩ u3).setCell ⟨z, 4, none⟩ u4).cell? ⟨bt, 0, none⟩ = some (.int .i64 a) ∧ (((((w.setCell ⟨z, 0, none⟩ u0).setCell ⟨z, 1, none⟩ u1).setCell ⟨z, 2, none⟩ u2).setCell ⟨z, 3, none⟩ u3).setCell ⟨z, 4, none⟩ u4).cell? ⟨bt, 1, none⟩ = some (.int .u8 cn) ∧ (((((w.setCell ⟨z, 0, none⟩ u0).setCell ⟨z, 1, none⟩ u1).setCell ⟨z, 2, none⟩ u2).setCell ⟨z, 3, none⟩ u3).setCell ⟨z, 4, none⟩ u4).cell? ⟨bt, 2, none⟩ = some (.int .i64 t) ∧ (((((w.setCell ⟨z, 0, none⟩ u0).setCell ⟨z, 1, none⟩ u1).setCell ⟨z, 2, none⟩ u2).setCell ⟨z, 3, none⟩ u3).setCell ⟨z, 4, none⟩ u4).cell? ⟨bt, 3, none⟩ = some (.bool rs) := by
  obtain ⟨h0, h1, h2, h3⟩ := h
  refine ⟨?_, ?_, ?_, ?_⟩ <;> (rw [cell_far hz, cell_far hz, cell_far hz, cell_far hz, cell_far hz]; assumption)
theorem ms5_grown {b : Nat} (h : w.cell? ⟨bm, 0, none⟩ = some (.int .i64 win) ∧ w.cell? ⟨bm, 1, none⟩ = some (.int .i64 retry) ∧ w.cell? ⟨bm, 2, none⟩ = some (.int .i64 first) ∧ w.cell? ⟨bm, 3, none⟩ = some v3 ∧ w.cell? ⟨bm, 4, none⟩ = some v4) (hg : w.grownBy w1 (some b)) (hne : bm ≠ b) :
    w1.cell? ⟨bm, 0, none⟩ = some (.int .i64 win) ∧ w1.cell? ⟨bm, 1, none⟩ = some (.int .i64 retry) ∧ w1.cell? ⟨bm, 2, none⟩ = some (.int .i64 first) ∧ w1.cell? ⟨bm, 3, none⟩ = some v3 ∧ w1.cell? ⟨bm, 4, none⟩ = some v4 :=
  ⟨hg.cell h.1 (fun e => hne (Option.some.inj e)), hg.cell h.2.1 (fun e => hne (Option.some.inj e)), hg.cell h.2.2.1 (fun e => hne (Option.some.inj e)), hg.cell h.2.2.2.1 (fun e => hne (Option.some.inj e)), hg.cell h.2.2.2.2 (fun e => hne (Option.some.inj e))⟩
end
def RefPost (b : Nat) (win retry first a now : Int) (F : Int → Option Int) (l : List Int) (w : World) (e : Ending) (w' : World) : Prop :=
  ∃ (first' : Int) (T' : List Int) (S' : List Bool) (A5 : Option Addr) (c5 : Nat) (A6 : Option Addr) (c6 : Nat) (A7 : Option Addr) (c7 : Nat) (A8 : Option Addr) (c8 : Nat) (N V : List Int),
    e = .returned (.tuple #[.agg #[.int .i64 win, .int .i64 retry, .int .i64 first', .slice A5 T'.length c5, .slice A6 S'.length c6], .slice A7 N.length c7, .slice A8 V.length c8]) ∧
    RS (pF F a retry now win l.length) first' win T' S' ∧ (first' = first ∧ a < 0 ∨ first' = a ∧ 0 ≤ a) ∧
    (Kd.int .i64).R 2 w' (b + 1) (fun _ => True) (.slice A5 T'.length c5) T' ∧ Kd.bool.R 4 w' (b + 1) (fun _ => True) (.slice A6 S'.length c6) S' ∧
    (Kd.int .i64).R 2 w' (b + 1) (fun _ => True) (.slice A7 N.length c7) N ∧ (Kd.int .i16).R 49 w' (b + 1) (fun _ => True) (.slice A8 V.length c8) V ∧
    tricklelaw45_matches.f 1001 (pO F a retry now win l) N V = some true ∧ Below w.heap.size w w'
theorem refpoll_z (b : Nat) (win retry first a now : Int) (A3 A4 A2 : Option Addr) (p c3 q c4 m2 c2 : Nat) (T : List Int) (S : List Bool) (l : List Int) (F : Int → Option Int) (w : World) (hb : b < w.heap.size) (hRS : RS F first win T S) (hg : good win retry) (hp : p = T.length) (hq : q = S.length) (hm : m2 = l.length)
    (h3 : (Kd.int .i64).R 2 w (b + 1) (fun _ => True) (.slice A3 p c3) T) (h4 : Kd.bool.R 4 w (b + 1) (fun _ => True) (.slice A4 q c4) S) (h2 : (Kd.int .i16).C w A2 l.length l) (hc2 : l.length ≤ c2) (ha : a ≤ 2147483648) (hf : 0 ≤ a → first ≤ a) (ht : -1099511627776 ≤ now ∧ now ≤ 1099511627776) (hl : l.length ≤ 1000) :
    Calls Try.prog 21 #[.agg #[.int .i64 win, .int .i64 retry, .int .i64 first, .slice A3 p c3, .slice A4 q c4], .int .i64 a, .slice A2 m2 c2, .int .i64 now] w (RefPost b win retry first a now F l w) := by
  subst hp hq hm
  by_cases h0 : a < 0
  · refine (refneg win retry first a now A3 A4 A2 T.length c3 S.length c4 l.length c2 w h0).mono ?_
    rintro e w' ⟨rfl, hw⟩
    have hb1 : Below w.heap.size w w' := by
      rw [hw]
      exact below_alloc (below_alloc (below_alloc (below_alloc (Below.refl _ _) _) _) _) _
    have e7 : w'.heap[w.heap.size + 1 + 1]? = some (.cells #[] 2 (0, 0)) := by
      rw [hw]
      have h := blk_alloc (blk_new ((w.alloc (.cells #[.int .i64 win, .int .i64 retry, .int .i64 first, .slice A3 T.length c3, .slice A4 S.length c4] 36)).alloc (.cells #[.int .i64 win, .int .i64 retry, .int .i64 first, .slice A3 T.length c3, .slice A4 S.length c4] 36)) (.cells #[] 2)) (.cells #[] 49)
      simpa using h
    have e8 : w'.heap[w.heap.size + 1 + 1 + 1]? = some (.cells #[] 49 (0, 0)) := by
      rw [hw]
      have h := blk_new (((w.alloc (.cells #[.int .i64 win, .int .i64 retry, .int .i64 first, .slice A3 T.length c3, .slice A4 S.length c4] 36)).alloc (.cells #[.int .i64 win, .int .i64 retry, .int .i64 first, .slice A3 T.length c3, .slice A4 S.length c4] 36)).alloc (.cells #[] 2)) (.cells #[] 49)
      simpa using h
    refine ⟨first, T, S, A3, c3, A4, c4, _, 0, _, 0, [], [], rfl, ?_, .inl ⟨rfl, h0⟩, Kd.R_below h3 hb1, Kd.R_below h4 hb1, own_empty 2 e7 (by omega) _ trivial, own_empty 49 e8 (by omega) _ trivial, ?_, hb1⟩
    · unfold pF
      rw [if_pos h0]
      exact hRS
    · unfold pO
      rw [if_pos h0]
      rfl
  · refine (Pq.trickleref45_Poll.calls 300 win retry first A3 c3 T A4 c4 S a A2 c2 l now _ _ _ _ _ _ _ w (Kd.R_reads' h3).2.2 (Kd.R_reads' h3).2.1 (Kd.R_reads' h4).2.2 (Kd.R_reads' h4).2.1 h2 hc2 (poll_tells hRS hg a now l (by omega) ha (hf (by omega)) ht hl)).mono ?_
    rintro e w' ⟨v3, v4, v5, v6, rfl, r3, r4, r5, r6, hb1⟩
    obtain ⟨A5, c5, rfl⟩ := Kd.R_slice r3
    obtain ⟨A6, c6, rfl⟩ := Kd.R_slice r4
    obtain ⟨A7, c7, rfl⟩ := Kd.R_slice r5
    obtain ⟨A8, c8, rfl⟩ := Kd.R_slice r6
    refine ⟨a, _, _, A5, c5, A6, c6, A7, c7, A8, c8, _, _, rfl, ?_, .inr ⟨rfl, by omega⟩, Kd.R_mono (Kd.R_lower r3 hb) (fun _ _ => trivial), Kd.R_lower r4 hb, Kd.R_mono (Kd.R_lower r5 hb) (fun _ _ => trivial), Kd.R_lower r6 hb, ?_, hb1⟩
    · unfold pF
      rw [if_neg h0]
      exact RS_step hRS hg a now l.length (by omega) ha (hf (by omega))
    · unfold pO
      rw [if_neg h0, nms_idx hg, vls_idx hg, outs_idx, idx_cut]
      refine matches_tells _ _ _ ?_
      have : (idx F a retry now (lim win a l.length)).length ≤ lim win a l.length := by
        unfold idx
        exact Nat.le_trans (List.length_filter_le _ _) (by simp)
      have h2 : lim win a l.length ≤ l.length := Nat.min_le_left _ _
      omega
section
variable {w : World} {z : Nat} {u0 u1 u2 u3 u4 : Value}
theorem grown_set1 (w : World) (z i : Nat) (u : Value) : w.grownBy (w.setCell ⟨z, i, none⟩ u) (some z) :=
  ⟨rfl, rfl, rfl, Nat.le_of_eq (by simp), fun k _ hk => Below.heap_setCell _ _ _ k (fun e => hk (by rw [e]))⟩
theorem blk5_other {g : Nat} {t : TypeId} {cs : Array Value} (h : w.heap[g]? = some (.cells cs t (0, 0))) (hz : g ≠ z) : (((((w.setCell ⟨z, 0, none⟩ u0).setCell ⟨z, 1, none⟩ u1).setCell ⟨z, 2, none⟩ u2).setCell ⟨z, 3, none⟩ u3).setCell ⟨z, 4, none⟩ u4).heap[g]? = some (.cells cs t (0, 0)) :=
  blk_far (blk_far (blk_far (blk_far (blk_far h hz _) hz _) hz _) hz _) hz _
theorem blk5_self {t : TypeId} {a0 a1 a2 a3 a4 : Value} (h : w.heap[z]? = some (.cells #[a0, a1, a2, a3, a4] t (0, 0))) : (((((w.setCell ⟨z, 0, none⟩ u0).setCell ⟨z, 1, none⟩ u1).setCell ⟨z, 2, none⟩ u2).setCell ⟨z, 3, none⟩ u3).setCell ⟨z, 4, none⟩ u4).heap[z]? = some (.cells #[u0, u1, u2, u3, u4] t (0, 0)) :=
  blk_put (blk_put (blk_put (blk_put (blk_put h 0 _ rfl) 1 _ rfl) 2 _ rfl) 3 _ rfl) 4 _ rfl
theorem R5 {α : Type} {d : Kd α} {e base : Nat} {ok : Nat → Prop} {v : Value} {xs : List α} {t : TypeId} {cells : Array Value} (h : d.R e w base ok v xs) (hb : w.heap[z]? = some (.cells cells t (0, 0))) (ht : ∀ q, q ∈ e :: d.E → q ≠ t) : d.R e (((((w.setCell ⟨z, 0, none⟩ u0).setCell ⟨z, 1, none⟩ u1).setCell ⟨z, 2, none⟩ u2).setCell ⟨z, 3, none⟩ u3).setCell ⟨z, 4, none⟩ u4) base ok v xs :=
  Kd.R_set (Kd.R_set (Kd.R_set (Kd.R_set (Kd.R_set h hb ht 0 _) (blk_set hb 0 _) ht 1 _) (blk_set (blk_set hb 0 _) 1 _) ht 2 _) (blk_set (blk_set (blk_set hb 0 _) 1 _) 2 _) ht 3 _) (blk_set (blk_set (blk_set (blk_set hb 0 _) 1 _) 2 _) 3 _) ht 4 _
theorem below5 {w0 : World} (h : Below w0.heap.size w0 w) (hz : w0.heap.size ≤ z) : Below w0.heap.size w0 (((((w.setCell ⟨z, 0, none⟩ u0).setCell ⟨z, 1, none⟩ u1).setCell ⟨z, 2, none⟩ u2).setCell ⟨z, 3, none⟩ u3).setCell ⟨z, 4, none⟩ u4) :=
  below_set (below_set (below_set (below_set (below_set h hz) hz) hz) hz) hz
theorem Snd1 {g b n i : Nat} {win retry : Int} {F : Int → Option Int} {u : Value} (h : Snd w g b win retry n F) (h1 : g ≠ z) (h2 : b ≠ z) : Snd (w.setCell ⟨z, i, none⟩ u) g b win retry n F :=
  h.grown (grown_set1 w z i u) (fun e => h1 (Option.some.inj e)) (fun e => h2 (Option.some.inj e))
theorem Snd5 {g b n : Nat} {win retry : Int} {F : Int → Option Int} {cs : Array Value} (h : Snd w g b win retry n F) (hz : w.heap[z]? = some (.cells cs 36 (0, 0))) : Snd (((((w.setCell ⟨z, 0, none⟩ u0).setCell ⟨z, 1, none⟩ u1).setCell ⟨z, 2, none⟩ u2).setCell ⟨z, 3, none⟩ u3).setCell ⟨z, 4, none⟩ u4) g b win retry n F := by
  have h1 : g ≠ z := blk_ne h.blk hz (by decide)
  have h2 : b ≠ z := by
    rintro rfl
    obtain ⟨D, ⟨es, c, hb, _⟩, _⟩ := h.map
    rw [hz] at hb
    cases hb
  exact Snd1 (Snd1 (Snd1 (Snd1 (Snd1 h h1 h2) h1 h2) h1 h2) h1 h2) h1 h2
theorem k2_36 {d : Kd Int} (hd : d.E = []) {e : Nat} (he : e ≠ 36) : ∀ q, q ∈ e :: d.E → q ≠ 36 := by
  intro q hq
  rw [hd] at hq
  simp at hq
  omega
end
theorem first_next {first first' m a : Int} (h : first' = first ∧ a < 0 ∨ first' = a ∧ 0 ≤ a) (h1 : first ≤ mx m 0) : first' ≤ mx (mx m a) 0 := by
  unfold mx at *
  by_cases c1 : m < 0 <;> by_cases c2 : m < a <;> by_cases c3 : a < 0 <;> simp only [c1, c2, c3, if_true, if_false] at h1 ⊢ <;> omega
theorem ty2 : ∀ q, q ∈ 2 :: (Kd.int .i64).E → q ≠ 36 := fun q hq => by cases hq with | head => decide | tail _ h => cases h
theorem ty4 : ∀ q, q ∈ 4 :: Kd.bool.E → q ≠ 36 := fun q hq => by cases hq with | head => decide | tail _ h => cases h
theorem ty49 : ∀ q, q ∈ 49 :: (Kd.int .i16).E → q ≠ 36 := fun q hq => by cases hq with | head => decide | tail _ h => cases h
set_option maxHeartbeats 16000000 in
set_option maxRecDepth 100000 in
theorem calls_in (win retry : Int) (A : Option Addr) (ca : Nat) (xs : List S43) (w : World) (hg : good win retry) (hca : xs.length ≤ ca) (hC : k43.C w A xs.length xs) (hx : ∀ x ∈ xs, Open.SCall x) (hord : tricklelaw45_ordered.f (xs.length + 1) xs = some true) (hl : xs.length ≤ 60) (hasc : Asc (-10) xs) :
    Calls Try.prog 7 #[.int .i64 win, .int .i64 retry, .slice A xs.length ca] w fun e w' => e = .returned (.bool true) ∧ Below w.heap.size w w' := by
  have HC := Aside0.mk hC
  have HG := Aside0.mk hg
  have HO := Aside0.mk hord
  have HX := Aside0.mk hx
  have HAS := Aside0.mk hasc
  have HA := Aside0.mk (asc_at xs _ hasc)
  have HN := Aside0.mk (newref_good win retry hg)
  clear hC hg hord hx hasc
  go_enter Try.func7, Try.ntmps7
  go_wp2_with fail
  refine (examples_any _).mono ?_
  rintro e w1 ⟨rfl, hb1⟩
  have B1 := Aside0.mk hb1
  clear hb1
  go_wp2_with fail
  refine (tricklelaw45_ordered.calls _ A ca xs _ w1 (Kd.C_below HC.out B1.out) hca HO.out).mono ?_
  rintro e w2 ⟨rfl, hb2⟩
  have B2 := Aside0.mk (below_step B1.out hb2)
  clear hb2 B1
  go_wp2_with fail
  refine (new_good win retry w2 HG.out).mono ?_
  rintro e w3 ⟨g, b, rfl, hs3, hge, hbe, hb3⟩
  have S3 := Aside0.mk hs3
  have B3 := Aside0.mk (below_step B2.out hb3)
  have hbe3 : w.heap.size ≤ b := by have := B2.out.size; omega
  clear hs3 hb3 hge hbe B2
  go_wp2_with fail
  refine (trickleref45_New.calls win retry _ _ _ _ _ _ w3 HN.out).mono ?_
  rintro e w4 ⟨v3, v4, rfl, ho3, ho4, hb4⟩
  obtain ⟨A3, c3, rfl⟩ := Kd.R_slice ho3
  obtain ⟨A4, c4, rfl⟩ := Kd.R_slice ho4
  have S4 := Aside0.mk (S3.out.below hb4)
  have B4 := Aside0.mk (below_step B3.out hb4)
  have R3 := Aside0.mk (Kd.R_lower ho3 S3.out.ltb)
  have R4 := Aside0.mk (Kd.R_lower ho4 S3.out.ltb)
  clear ho3 ho4 hb4 S3 B3
  have B5 := Aside0.mk (below_alloc B4.out (.cells #[.int .i64 win, .int .i64 retry, .int .i64 0, .slice A3 0 c3, .slice A4 0 c4] 36))
  have S5 := Aside0.mk (S4.out.alloc (.cells #[.int .i64 win, .int .i64 retry, .int .i64 0, .slice A3 0 c3, .slice A4 0 c4] 36))
  have N5 := Aside0.mk (blk_new w4 (.cells #[.int .i64 win, .int .i64 retry, .int .i64 0, .slice A3 0 c3, .slice A4 0 c4] 36))
  have P5 := Aside0.mk (Kd.R_alloc R3.out (.cells #[.int .i64 win, .int .i64 retry, .int .i64 0, .slice A3 0 c3, .slice A4 0 c4] 36))
  have Q5 := Aside0.mk (Kd.R_alloc R4.out (.cells #[.int .i64 win, .int .i64 retry, .int .i64 0, .slice A3 0 c3, .slice A4 0 c4] 36))
  have hbm : b < w4.heap.size := S4.out.ltb
  have hgm : g < w4.heap.size := S4.out.lt
  have hwm : w.heap.size ≤ w4.heap.size := B4.out.size
  obtain ⟨bm, hbmE⟩ : ∃ bm, w4.heap.size = bm := ⟨_, rfl⟩
  rw [hbmE] at N5 hbm hgm hwm
  clear S4 B4 R3 R4
  go_wp2
  clear hbmE
  go_loopw [52] (fun ix wr => ∃ (k n p q c3 c4 : Nat) (F : Int → Option Int) (first m : Int) (T : List Int) (S : List Bool) (A3 A4 : Option Addr), k ≤ xs.length ∧ ix = .int .i64 k ∧ Aside0 (n ≤ 60 * k) ∧ Aside0 (RS F first win T S ∧ first ≤ mx m 0 ∧ Asc m (xs.drop k) ∧ p = T.length ∧ q = S.length) ∧ Aside0 (Snd wr g b win retry n F) ∧ Aside0 (wr.heap[bm]? = some (.cells #[.int .i64 win, .int .i64 retry, .int .i64 first, .slice A3 p c3, .slice A4 q c4] 36 (0, 0))) ∧ Aside0 ((Kd.int .i64).R 2 wr (b + 1) (fun _ => True) (.slice A3 p c3) T) ∧ Aside0 (Kd.bool.R 4 wr (b + 1) (fun _ => True) (.slice A4 q c4) S) ∧ Aside0 (Below w.heap.size w wr)) (fun ix _ => xs.length - (intOf ix).toNat)
  case atStart => exact ⟨0, 0, 0, 0, c3, c4, _, 0, -10, [], [], A3, A4, Nat.zero_le _, rfl, ⟨Nat.le_refl _⟩, ⟨RS_start win HG.out.1, by decide, HAS.out, rfl, rfl⟩, S5, N5, P5, Q5, B5⟩
  case round =>
    obtain ⟨k, n, p, q, c3, c4, F, first, m, T, S, A3, A4, hk, rfl, HNn, HRS, HS', HM', HP', HQ', HB'⟩ := hrel
    clear S5 N5 P5 Q5 B5
    by_cases hlt : k < xs.length
    · have hk0 : 0 < xs.length := by omega
      obtain ⟨ad, had, h0, h1, h2, h3⟩ := at_T43 HC.out (k : Int) (by omega) (by omega)
      rw [Int.toNat_natCast] at h0 h1 h2 h3
      have hxe : rd_T43 xs (k : Int) = xs[k] := by
        unfold rd_T43
        rw [List.getD_eq_getElem?_getD, Int.toNat_natCast, List.getElem?_eq_getElem hlt]
        rfl
      rw [hxe] at h0 h1 h2 h3
      have hbd := HX.out _ (List.getElem_mem hlt)
      have hbd2 := HA.out _ (List.getElem_mem hlt)
      have has := HRS.out.2.2.1
      rw [List.drop_eq_getElem_cons hlt] at has
      generalize xs[k] = x at *
      obtain ⟨a, cn, t, rs⟩ := x
      have r0 := pw_cell_below HB'.out h0
      have r1 := pw_cell_below HB'.out h1
      have r2 := pw_cell_below HB'.out h2
      have r3 := pw_cell_below HB'.out h3
      obtain ⟨⟨ha1, ha2⟩, ⟨hc1, hc2⟩, ⟨ht1, ht2⟩⟩ := hbd
      have ha3 : a ≤ 2147483648 := hbd2
      obtain ⟨has1, _, has3⟩ := has
      have HAs := Aside0.mk (show (0 ≤ a → m ≤ a) ∧ Asc (mx m a) (xs.drop (k + 1)) from ⟨has1, has3⟩)
      simp only at ha1 ha2 hc1 hc2 ht1 ht2 r0 r1 r2 r3
      clear h0 h1 h2 h3 hxe hbd2 has1 has3
      subst had
      by_cases g2 : t > 1099511627776
      · go_wp2
        go_ret
        exact ⟨rfl, by repeat (first | exact HB'.out | apply below_alloc)⟩
      by_cases g3 : t < -1099511627776
      · go_wp2
        go_ret
        exact ⟨rfl, by repeat (first | exact HB'.out | apply below_alloc)⟩
      have d2 : decide ((1099511627776 : Int) < t) = false := decide_eq_false (by omega)
      have d3 : decide (t < -1099511627776) = false := decide_eq_false g3
      have hml : (msgs a cn).length ≤ 50 := by rw [msgs_length]; omega
      have S4 := Aside0.mk (HS'.out.alloc (.cells #[.int .i64 a, .int .u8 cn, .int .i64 t, .bool rs] 43))
      have B4 := Aside0.mk (below_alloc HB'.out (.cells #[.int .i64 a, .int .u8 cn, .int .i64 t, .bool rs] 43))
      have T4 := Aside0.mk (blk_new wr (.cells #[.int .i64 a, .int .u8 cn, .int .i64 t, .bool rs] 43))
      have M4 := Aside0.mk (blk_alloc HM'.out (.cells #[.int .i64 a, .int .u8 cn, .int .i64 t, .bool rs] 43))
      have P4 := Aside0.mk (Kd.R_alloc HP'.out (.cells #[.int .i64 a, .int .u8 cn, .int .i64 t, .bool rs] 43))
      have Q4 := Aside0.mk (Kd.R_alloc HQ'.out (.cells #[.int .i64 a, .int .u8 cn, .int .i64 t, .bool rs] 43))
      have hbb : wr.heap.size ≠ b := by have := HS'.out.ltb; omega
      have hbt : wr.heap.size ≠ bm := by have := blk_lt HM'.out; omega
      cases rs
      · go_wp2_with fail
        obtain ⟨W, hW⟩ : ∃ W, wr.alloc (.cells #[.int .i64 a, .int .u8 cn, .int .i64 t, .bool false] 43) = W := ⟨_, rfl⟩
        rw [hW] at S4 B4 T4 M4 P4 Q4 ⊢
        obtain ⟨rs, hRS2⟩ : ∃ rs, rs = false := ⟨_, rfl⟩
        rw [← hRS2] at T4
        generalize wr.heap.size = bt at *
        clear hW hRS2 HS' HB' HM' HP' HQ' r0 r1 r2 r3 d2 d3
        have HR4 := Aside0.mk (show RS F first win T S ∧ first ≤ mx m 0 ∧ p = T.length ∧ q = S.length from ⟨HRS.out.1, HRS.out.2.1, HRS.out.2.2.2.1, HRS.out.2.2.2.2⟩)
        have HN4 := Aside0.mk HNn.out
        have hfa : 0 ≤ a → first ≤ a := fun h => by have h1 := HR4.out.2.1; have h2 := HAs.out.1 h; unfold mx at h1; split at h1 <;> omega
        clear HRS HNn
        have s4 := cs4 (w := W.drew) T4.out
        have m4 := ms5 (w := W.drew) M4.out
        have hlb : b < W.heap.size := S4.out.ltb
        have HZM := Aside0.mk (show bm ≠ W.heap.size by have := blk_lt M4.out; omega)
        have HZT := Aside0.mk (show bt ≠ W.heap.size by have := blk_lt T4.out; omega)
        go_region_held3 (fun w' => (w'.cell? ⟨bm, 0, none⟩ = some (.int .i64 win) ∧ w'.cell? ⟨bm, 1, none⟩ = some (.int .i64 retry) ∧ w'.cell? ⟨bm, 2, none⟩ = some (.int .i64 first) ∧ w'.cell? ⟨bm, 3, none⟩ = some (.slice A3 p c3) ∧ w'.cell? ⟨bm, 4, none⟩ = some (.slice A4 q c4)) ∧ (w'.cell? ⟨bt, 0, none⟩ = some (.int .i64 a) ∧ w'.cell? ⟨bt, 1, none⟩ = some (.int .u8 cn) ∧ w'.cell? ⟨bt, 2, none⟩ = some (.int .i64 t) ∧ w'.cell? ⟨bt, 3, none⟩ = some (.bool rs))) (first | (with_reducible exact ⟨m6, s6⟩) | (with_reducible exact ⟨ms5_set5 m6 HZM.out, cs4_set5 s6 HZT.out⟩) | (with_reducible exact ⟨ms5_set5 m6 HZ5.out, cs4_set5 s6 HY5.out⟩) | (with_reducible exact ⟨m5, s5⟩) | (with_reducible exact ⟨m4, s4⟩) | (with_reducible exact ⟨ms5_below m6 (below_alloc (Below.refl _ _) _), cs4_below s6 (below_alloc (Below.refl _ _) _)⟩) | (with_reducible exact ⟨ms5_below m5 (below_alloc (Below.refl _ _) _), cs4_below s5 (below_alloc (Below.refl _ _) _)⟩) | (with_reducible exact ⟨ms5_below m4 (below_alloc (Below.refl _ _) _), cs4_below s4 (below_alloc (Below.refl _ _) _)⟩) | (trace_state; fail))
          (first
            | (go_at_call 16; refine (tricklelaw45_Call_messages.calls 51 a cn t rs _ _ (msgs_tells a cn t rs hc1 hc2)).mono ?_; rintro e w5 ⟨v5, rfl, ho5, hb5⟩; obtain ⟨A5, c5, rfl, hl5, hC5⟩ := Kd.R_reads ho5; have k5 : Below W.heap.size W w5 := (by first | exact Below.trans (below_drew (Below.refl _ _)) hb5 | exact Below.trans (below_alloc (below_drew (Below.refl _ _)) _) (hb5.mono (by simp))); have s5 := cs4_below (w := W) s4 k5; have m5 := ms5_below (w := W) m4 k5; have hlb5 : b < w5.heap.size := (by have := k5.size; omega); (try (have zb : w5.heap[W.heap.size]? = some (.cells #[.int .i64 0, .int .i64 0, .int .i64 0, .slice none 0 0, .slice none 0 0] 36 (0, 0)) := blk_below (show (W.drew.alloc (.cells #[.int .i64 0, .int .i64 0, .int .i64 0, .slice none 0 0, .slice none 0 0] 36)).heap[W.heap.size]? = _ from blk_new W.drew _) hb5)); have HZ5 := Aside0.mk (show bm ≠ w5.heap.size by have := k5.size; have := blk_lt M4.out; omega); have HY5 := Aside0.mk (show bt ≠ w5.heap.size by have := k5.size; have := blk_lt T4.out; omega))
            | (go_at_call 21; refine (refpoll_z b win retry first a t A3 A4 A5 p c3 q c4 _ c5 T S (msgs a cn) F _ ?hb HR4.out.1 HG.out HR4.out.2.2.1 HR4.out.2.2.2 rfl ?h3 ?h4 ?h2 hl5 ha3 ?hf ?ht ?hl).mono ?_; (case hb => (first | exact hlb5 | (simp; omega))); (case h3 => (first | exact Kd.R_below P4.out k5 | exact Kd.R_alloc (Kd.R_below P4.out k5) _)); (case h4 => (first | exact Kd.R_below Q4.out k5 | exact Kd.R_alloc (Kd.R_below Q4.out k5) _)); (case h2 => (first | exact hC5 | exact Kd.C_alloc hC5 _)); (case hf => exact hfa); (case ht => exact ⟨by omega, by omega⟩); (case hl => omega); rintro e w6 ⟨first', T', S', A6, c6, A7, c7, A8, c8, A9, c9, N, V, rfl, hrs6, hfi6, hp6, hq6, hn6, hv6, hm6, hb6⟩; have k6 : Below w5.heap.size w5 w6 := (by first | exact hb6 | exact Below.trans (below_alloc (Below.refl _ _) _) (hb6.mono (by simp))); have s6 := cs4_below s5 k6; have m6 := ms5_below m5 k6; (try (have zc : w6.heap[W.heap.size]? = some (.cells #[.int .i64 0, .int .i64 0, .int .i64 0, .slice none 0 0, .slice none 0 0] 36 (0, 0)) := blk_below zb hb6)); (try (have zc : w6.heap[w5.heap.size]? = some (.cells #[.int .i64 0, .int .i64 0, .int .i64 0, .slice none 0 0, .slice none 0 0] 36 (0, 0)) := blk_below (blk_new w5 _) hb6)); (try (have z0 := (blk_cell zc 0).trans (show _ = some (Value.int .i64 0) from rfl); have z1 := (blk_cell zc 1).trans (show _ = some (Value.int .i64 0) from rfl); have z2 := (blk_cell zc 2).trans (show _ = some (Value.int .i64 0) from rfl); have z3 := (blk_cell zc 3).trans (show _ = some (Value.slice none 0 0) from rfl); have z4 := (blk_cell zc 4).trans (show _ = some (Value.slice none 0 0) from rfl); have y0 := blk_frozen zc 0; have y1 := blk_frozen zc 1; have y2 := blk_frozen zc 2; have y3 := blk_frozen zc 3; have y4 := blk_frozen zc 4; have ZC := Aside0.mk zc; clear zc))))
        · obtain ⟨w7, hw7⟩ : ∃ w7, w7 = (w6.alloc (.cells #[.int .i64 win, .int .i64 retry, .int .i64 first', .slice A6 T'.length c6, .slice A7 S'.length c7] 36)) := ⟨_, rfl⟩
          have hz7 : w7.heap[w6.heap.size]? = some (.cells #[.int .i64 win, .int .i64 retry, .int .i64 first', .slice A6 T'.length c6, .slice A7 S'.length c7] 36 (0, 0)) := by rw [hw7]; exact blk_new w6 _
          have K7 : Below W.heap.size W w7 := by rw [hw7]; exact below_alloc (below_step k5 k6) _
          have P7 := Aside0.mk (show (Kd.int .i64).R 2 w7 (b + 1) (fun _ => True) (.slice A6 T'.length c6) T' by rw [hw7]; exact Kd.R_alloc hp6 (.cells #[.int .i64 win, .int .i64 retry, .int .i64 first', .slice A6 T'.length c6, .slice A7 S'.length c7] 36))
          have Q7 := Aside0.mk (show Kd.bool.R 4 w7 (b + 1) (fun _ => True) (.slice A7 S'.length c7) S' by rw [hw7]; exact Kd.R_alloc hq6 (.cells #[.int .i64 win, .int .i64 retry, .int .i64 first', .slice A6 T'.length c6, .slice A7 S'.length c7] 36))
          have N7 := Aside0.mk (show (Kd.int .i64).R 2 w7 (b + 1) (fun _ => True) (.slice A8 N.length c8) N by rw [hw7]; exact Kd.R_alloc hn6 (.cells #[.int .i64 win, .int .i64 retry, .int .i64 first', .slice A6 T'.length c6, .slice A7 S'.length c7] 36))
          have V7 := Aside0.mk (show (Kd.int .i16).R 49 w7 (b + 1) (fun _ => True) (.slice A9 V.length c9) V by rw [hw7]; exact Kd.R_alloc hv6 (.cells #[.int .i64 win, .int .i64 retry, .int .i64 first', .slice A6 T'.length c6, .slice A7 S'.length c7] 36))
          rw [← hw7]
          clear hw7
          have S7 := Aside0.mk (S4.out.below K7)
          have B7 := Aside0.mk (below_step B4.out K7)
          have T7 := Aside0.mk (blk_below T4.out K7)
          have M7 := Aside0.mk (blk_below M4.out K7)
          generalize w6.heap.size = nb at *
          have HX7 := Aside0.mk (show bt ≠ bm by exact hbt)
          obtain ⟨O, hO⟩ : ∃ O, pO F a retry t win (msgs a cn) = O := ⟨_, rfl⟩
          obtain ⟨F', hF'⟩ : ∃ F', pF F a retry t win (msgs a cn).length = F' := ⟨_, rfl⟩
          rw [hO] at hm6
          rw [hF'] at hrs6
          have HOq := Aside0.mk hO
          have HFq := Aside0.mk hF'
          have HM6 := Aside0.mk hm6
          have HR7 := Aside0.mk (show RS F' first' win T' S' ∧ (first' = first ∧ a < 0 ∨ first' = a ∧ 0 ≤ a) from ⟨hrs6, hfi6⟩)
          have e0 : w7.cell? ⟨nb, 0, none⟩ = some (.int .i64 win) := (blk_cell hz7 0).trans rfl
          have e1 : w7.cell? ⟨nb, 1, none⟩ = some (.int .i64 retry) := (blk_cell hz7 1).trans rfl
          have e2 : w7.cell? ⟨nb, 2, none⟩ = some (.int .i64 first') := (blk_cell hz7 2).trans rfl
          have e3 : w7.cell? ⟨nb, 3, none⟩ = some (.slice A6 T'.length c6) := (blk_cell hz7 3).trans rfl
          have e4 : w7.cell? ⟨nb, 4, none⟩ = some (.slice A7 S'.length c7) := (blk_cell hz7 4).trans rfl
          have f0 : w7.cell? ⟨bm, 0, none⟩ = some (.int .i64 win) := (blk_cell M7.out 0).trans rfl
          have f1 : w7.cell? ⟨bm, 1, none⟩ = some (.int .i64 retry) := (blk_cell M7.out 1).trans rfl
          have f2 : w7.cell? ⟨bm, 2, none⟩ = some (.int .i64 first) := (blk_cell M7.out 2).trans rfl
          have f3 : w7.cell? ⟨bm, 3, none⟩ = some (.slice A3 p c3) := (blk_cell M7.out 3).trans rfl
          have f4 : w7.cell? ⟨bm, 4, none⟩ = some (.slice A4 q c4) := (blk_cell M7.out 4).trans rfl
          have y0 := blk_frozen M7.out 0
          have y1 := blk_frozen M7.out 1
          have y2 := blk_frozen M7.out 2
          have y3 := blk_frozen M7.out 3
          have y4 := blk_frozen M7.out 4
          rename_i hHx
          clear hHx
          clear hO hF' hm6 hrs6 hfi6 hp6 hq6 hn6 hv6 hb6 k6 k5 hb5 ho5 hC5 hl5 s4 s5 s6 m4 m5 m6 K7 S4 B4 T4 M4 P4 Q4 HZM HZT HZ5 HY5 hlb5 hz7
          try clear z0 z1 z2 z3 z4
          try clear zb
          try clear ZC
          have hu36 := Try.underlying36
          go_wp2_with fail
          clear e0 e1 e2 e3 e4 f0 f1 f2 f3 f4 y0 y1 y2 y3 y4
          obtain ⟨w8, hw8⟩ : ∃ w8, w8 = (((((w7.setCell ⟨bm, 0, none⟩ (.int .i64 win)).setCell ⟨bm, 1, none⟩ (.int .i64 retry)).setCell ⟨bm, 2, none⟩ (.int .i64 first')).setCell ⟨bm, 3, none⟩ (.slice A6 T'.length c6)).setCell ⟨bm, 4, none⟩ (.slice A7 S'.length c7)) := ⟨_, rfl⟩
          have S8 := Aside0.mk (show Snd w8 g b win retry n F by rw [hw8]; exact Snd5 S7.out M7.out)
          have M8 := Aside0.mk (show w8.heap[bm]? = some (.cells #[.int .i64 win, .int .i64 retry, .int .i64 first', .slice A6 T'.length c6, .slice A7 S'.length c7] 36 (0, 0)) by rw [hw8]; exact blk5_self M7.out)
          have T8 := Aside0.mk (show w8.heap[bt]? = some (.cells #[.int .i64 a, .int .u8 cn, .int .i64 t, .bool rs] 43 (0, 0)) by rw [hw8]; exact blk5_other T7.out HX7.out)
          have P8 := Aside0.mk (show (Kd.int .i64).R 2 w8 (b + 1) (fun _ => True) (.slice A6 T'.length c6) T' by rw [hw8]; exact R5 P7.out M7.out ty2)
          have Q8 := Aside0.mk (show Kd.bool.R 4 w8 (b + 1) (fun _ => True) (.slice A7 S'.length c7) S' by rw [hw8]; exact R5 Q7.out M7.out ty4)
          have N8 := Aside0.mk (show (Kd.int .i64).R 2 w8 (b + 1) (fun _ => True) (.slice A8 N.length c8) N by rw [hw8]; exact R5 N7.out M7.out ty2)
          have V8 := Aside0.mk (show (Kd.int .i16).R 49 w8 (b + 1) (fun _ => True) (.slice A9 V.length c9) V by rw [hw8]; exact R5 V7.out M7.out ty49)
          have B8 := Aside0.mk (show Below w.heap.size w w8 by rw [hw8]; exact below5 B7.out hwm)
          rw [← hw8]
          clear hw8 S7 M7 T7 P7 Q7 N7 V7 B7
          have s8 := cs4 (w := w8.drew) T8.out
          have hlb8 : b < w8.heap.size := S8.out.ltb
          have HBM := Aside0.mk (show bm ≠ b by omega)
          have HBB := Aside0.mk (show bt ≠ b by exact hbb)
          go_region_held3 (fun w' => w'.cell? ⟨bt, 0, none⟩ = some (.int .i64 a) ∧ w'.cell? ⟨bt, 1, none⟩ = some (.int .u8 cn) ∧ w'.cell? ⟨bt, 2, none⟩ = some (.int .i64 t) ∧ w'.cell? ⟨bt, 3, none⟩ = some (.bool rs)) (first | (with_reducible exact s8) | (with_reducible exact s9) | (with_reducible exact s10) | (with_reducible exact s11))
              (first
                | (go_at_call 16; refine (tricklelaw45_Call_messages.calls 51 a cn t rs _ _ (msgs_tells a cn t rs hc1 hc2)).mono ?_; rintro e w9 ⟨v10, rfl, ho9, hb9⟩; obtain ⟨A10, c10, rfl, hl10, hC10⟩ := Kd.R_reads ho9; have k9 : Below w8.heap.size w8 w9 := (by first | exact hb9 | exact Below.trans (below_drew (Below.refl _ _)) hb9); have s9 := cs4_below (w := w8) s8 k9; have hlz9 : b < w9.heap.size := (by have := k9.size; omega))
                | (go_at_call 17; refine (poll_z g b b n win retry a t A10 _ c10 (msgs a cn) F F' O _ ?side2 hlz9 HG.out ?side3 ?side4 ?side6 ?side7 ?side8 hl10 rfl HOq.out HFq.out).mono ?_; (case side2 => exact S8.out.below k9); (case side3 => exact ⟨by omega, by omega⟩); (case side4 => exact ⟨by omega, by omega⟩); (case side6 => omega); (case side7 => have := HN4.out; omega); (case side8 => exact hC10); rintro e w10 ⟨A11, c11, rfl, hR11, hS11, hG11⟩; have s10 := cs4_grown s9 hG11 HBB.out)
                | (go_at_call 22; refine (tricklelaw45_matches.calls 1001 A11 c11 O A8 c8 N A9 c9 V true _ (Kd.R_reads' hR11).2.2 (Kd.R_reads' hR11).2.1 ?sd1 ?sd2 ?sd3 ?sd4 HM6.out).mono ?_; (case sd1 => exact (Kd.R_reads' (R_mapped (Kd.R_below N8.out k9) hG11 (Nat.lt_succ_self b))).2.2); (case sd2 => exact (Kd.R_reads' N8.out).2.1); (case sd3 => exact (Kd.R_reads' (R_mapped (Kd.R_below V8.out k9) hG11 (Nat.lt_succ_self b))).2.2); (case sd4 => exact (Kd.R_reads' V8.out).2.1); rintro e w11 ⟨rfl, hb11⟩; have s11 := cs4_below s10 hb11))
          have S11 := Aside0.mk (hS11.below hb11)
          have B11 := Aside0.mk (below_step (below_poll (below_step B8.out k9) hG11 hbe3) hb11)
          have M11 := Aside0.mk (blk_below (blk_grown (blk_below M8.out k9) hG11 (fun e => HBM.out (Option.some.inj e))) hb11)
          have P11 := Aside0.mk (Kd.R_below (R_mapped (Kd.R_below P8.out k9) hG11 (Nat.lt_succ_self b)) hb11)
          have Q11 := Aside0.mk (Kd.R_below (R_mapped (Kd.R_below Q8.out k9) hG11 (Nat.lt_succ_self b)) hb11)
          clear hb9 k9 ho9 hl10 hC10 s8 s9 s10 s11 hR11 hS11 hG11 hb11 S8 M8 T8 P8 Q8 N8 V8 B8 HOq HFq HM6
          go_wp2_with fail
          go_roundw
          case rel => exact ⟨k + 1, n + (msgs a cn).length, _, _, _, _, F', first', mx m a, T', S', A6, A7, by omega, by go_num, ⟨by have := HN4.out; omega⟩, ⟨HR7.out.1, first_next HR7.out.2 HR4.out.2.1, HAs.out.2, rfl, rfl⟩, S11, M11, P11, Q11, B11⟩
          case measure => simp [intOf]; omega
        · obtain ⟨w7, hw7⟩ : ∃ w7, w7 = (((((w6.setCell ⟨w5.heap.size, 0, none⟩ (.int .i64 win)).setCell ⟨w5.heap.size, 1, none⟩ (.int .i64 retry)).setCell ⟨w5.heap.size, 2, none⟩ (.int .i64 first')).setCell ⟨w5.heap.size, 3, none⟩ (.slice A6 T'.length c6)).setCell ⟨w5.heap.size, 4, none⟩ (.slice A7 S'.length c7)) := ⟨_, rfl⟩
          have hz7 : w7.heap[w5.heap.size]? = some (.cells #[.int .i64 win, .int .i64 retry, .int .i64 first', .slice A6 T'.length c6, .slice A7 S'.length c7] 36 (0, 0)) := by rw [hw7]; exact blk5_self ZC.out
          have K7 : Below W.heap.size W w7 := by rw [hw7]; exact below5 (below_step k5 k6) (by first | exact k5.size | exact Nat.le_refl _)
          have P7 := Aside0.mk (show (Kd.int .i64).R 2 w7 (b + 1) (fun _ => True) (.slice A6 T'.length c6) T' by rw [hw7]; exact R5 hp6 ZC.out ty2)
          have Q7 := Aside0.mk (show Kd.bool.R 4 w7 (b + 1) (fun _ => True) (.slice A7 S'.length c7) S' by rw [hw7]; exact R5 hq6 ZC.out ty4)
          have N7 := Aside0.mk (show (Kd.int .i64).R 2 w7 (b + 1) (fun _ => True) (.slice A8 N.length c8) N by rw [hw7]; exact R5 hn6 ZC.out ty2)
          have V7 := Aside0.mk (show (Kd.int .i16).R 49 w7 (b + 1) (fun _ => True) (.slice A9 V.length c9) V by rw [hw7]; exact R5 hv6 ZC.out ty49)
          rw [← hw7]
          clear hw7
          have S7 := Aside0.mk (S4.out.below K7)
          have B7 := Aside0.mk (below_step B4.out K7)
          have T7 := Aside0.mk (blk_below T4.out K7)
          have M7 := Aside0.mk (blk_below M4.out K7)
          generalize w5.heap.size = nb at *
          have HX7 := Aside0.mk (show bt ≠ bm by exact hbt)
          obtain ⟨O, hO⟩ : ∃ O, pO F a retry t win (msgs a cn) = O := ⟨_, rfl⟩
          obtain ⟨F', hF'⟩ : ∃ F', pF F a retry t win (msgs a cn).length = F' := ⟨_, rfl⟩
          rw [hO] at hm6
          rw [hF'] at hrs6
          have HOq := Aside0.mk hO
          have HFq := Aside0.mk hF'
          have HM6 := Aside0.mk hm6
          have HR7 := Aside0.mk (show RS F' first' win T' S' ∧ (first' = first ∧ a < 0 ∨ first' = a ∧ 0 ≤ a) from ⟨hrs6, hfi6⟩)
          have e0 : w7.cell? ⟨nb, 0, none⟩ = some (.int .i64 win) := (blk_cell hz7 0).trans rfl
          have e1 : w7.cell? ⟨nb, 1, none⟩ = some (.int .i64 retry) := (blk_cell hz7 1).trans rfl
          have e2 : w7.cell? ⟨nb, 2, none⟩ = some (.int .i64 first') := (blk_cell hz7 2).trans rfl
          have e3 : w7.cell? ⟨nb, 3, none⟩ = some (.slice A6 T'.length c6) := (blk_cell hz7 3).trans rfl
          have e4 : w7.cell? ⟨nb, 4, none⟩ = some (.slice A7 S'.length c7) := (blk_cell hz7 4).trans rfl
          have f0 : w7.cell? ⟨bm, 0, none⟩ = some (.int .i64 win) := (blk_cell M7.out 0).trans rfl
          have f1 : w7.cell? ⟨bm, 1, none⟩ = some (.int .i64 retry) := (blk_cell M7.out 1).trans rfl
          have f2 : w7.cell? ⟨bm, 2, none⟩ = some (.int .i64 first) := (blk_cell M7.out 2).trans rfl
          have f3 : w7.cell? ⟨bm, 3, none⟩ = some (.slice A3 p c3) := (blk_cell M7.out 3).trans rfl
          have f4 : w7.cell? ⟨bm, 4, none⟩ = some (.slice A4 q c4) := (blk_cell M7.out 4).trans rfl
          have y0 := blk_frozen M7.out 0
          have y1 := blk_frozen M7.out 1
          have y2 := blk_frozen M7.out 2
          have y3 := blk_frozen M7.out 3
          have y4 := blk_frozen M7.out 4
          rename_i hHx
          clear hHx
          clear hO hF' hm6 hrs6 hfi6 hp6 hq6 hn6 hv6 hb6 k6 k5 hb5 ho5 hC5 hl5 s4 s5 s6 m4 m5 m6 K7 S4 B4 T4 M4 P4 Q4 HZM HZT HZ5 HY5 hlb5 hz7
          try clear z0 z1 z2 z3 z4
          try clear zb
          try clear ZC
          have hu36 := Try.underlying36
          go_wp2_with fail
          clear e0 e1 e2 e3 e4 f0 f1 f2 f3 f4 y0 y1 y2 y3 y4
          obtain ⟨w8, hw8⟩ : ∃ w8, w8 = (((((w7.setCell ⟨bm, 0, none⟩ (.int .i64 win)).setCell ⟨bm, 1, none⟩ (.int .i64 retry)).setCell ⟨bm, 2, none⟩ (.int .i64 first')).setCell ⟨bm, 3, none⟩ (.slice A6 T'.length c6)).setCell ⟨bm, 4, none⟩ (.slice A7 S'.length c7)) := ⟨_, rfl⟩
          have S8 := Aside0.mk (show Snd w8 g b win retry n F by rw [hw8]; exact Snd5 S7.out M7.out)
          have M8 := Aside0.mk (show w8.heap[bm]? = some (.cells #[.int .i64 win, .int .i64 retry, .int .i64 first', .slice A6 T'.length c6, .slice A7 S'.length c7] 36 (0, 0)) by rw [hw8]; exact blk5_self M7.out)
          have T8 := Aside0.mk (show w8.heap[bt]? = some (.cells #[.int .i64 a, .int .u8 cn, .int .i64 t, .bool rs] 43 (0, 0)) by rw [hw8]; exact blk5_other T7.out HX7.out)
          have P8 := Aside0.mk (show (Kd.int .i64).R 2 w8 (b + 1) (fun _ => True) (.slice A6 T'.length c6) T' by rw [hw8]; exact R5 P7.out M7.out ty2)
          have Q8 := Aside0.mk (show Kd.bool.R 4 w8 (b + 1) (fun _ => True) (.slice A7 S'.length c7) S' by rw [hw8]; exact R5 Q7.out M7.out ty4)
          have N8 := Aside0.mk (show (Kd.int .i64).R 2 w8 (b + 1) (fun _ => True) (.slice A8 N.length c8) N by rw [hw8]; exact R5 N7.out M7.out ty2)
          have V8 := Aside0.mk (show (Kd.int .i16).R 49 w8 (b + 1) (fun _ => True) (.slice A9 V.length c9) V by rw [hw8]; exact R5 V7.out M7.out ty49)
          have B8 := Aside0.mk (show Below w.heap.size w w8 by rw [hw8]; exact below5 B7.out hwm)
          rw [← hw8]
          clear hw8 S7 M7 T7 P7 Q7 N7 V7 B7
          have s8 := cs4 (w := w8.drew) T8.out
          have hlb8 : b < w8.heap.size := S8.out.ltb
          have HBM := Aside0.mk (show bm ≠ b by omega)
          have HBB := Aside0.mk (show bt ≠ b by exact hbb)
          go_region_held3 (fun w' => w'.cell? ⟨bt, 0, none⟩ = some (.int .i64 a) ∧ w'.cell? ⟨bt, 1, none⟩ = some (.int .u8 cn) ∧ w'.cell? ⟨bt, 2, none⟩ = some (.int .i64 t) ∧ w'.cell? ⟨bt, 3, none⟩ = some (.bool rs)) (first | (with_reducible exact s8) | (with_reducible exact s9) | (with_reducible exact s10) | (with_reducible exact s11))
              (first
                | (go_at_call 16; refine (tricklelaw45_Call_messages.calls 51 a cn t rs _ _ (msgs_tells a cn t rs hc1 hc2)).mono ?_; rintro e w9 ⟨v10, rfl, ho9, hb9⟩; obtain ⟨A10, c10, rfl, hl10, hC10⟩ := Kd.R_reads ho9; have k9 : Below w8.heap.size w8 w9 := (by first | exact hb9 | exact Below.trans (below_drew (Below.refl _ _)) hb9); have s9 := cs4_below (w := w8) s8 k9; have hlz9 : b < w9.heap.size := (by have := k9.size; omega))
                | (go_at_call 17; refine (poll_z g b b n win retry a t A10 _ c10 (msgs a cn) F F' O _ ?side2 hlz9 HG.out ?side3 ?side4 ?side6 ?side7 ?side8 hl10 rfl HOq.out HFq.out).mono ?_; (case side2 => exact S8.out.below k9); (case side3 => exact ⟨by omega, by omega⟩); (case side4 => exact ⟨by omega, by omega⟩); (case side6 => omega); (case side7 => have := HN4.out; omega); (case side8 => exact hC10); rintro e w10 ⟨A11, c11, rfl, hR11, hS11, hG11⟩; have s10 := cs4_grown s9 hG11 HBB.out)
                | (go_at_call 22; refine (tricklelaw45_matches.calls 1001 A11 c11 O A8 c8 N A9 c9 V true _ (Kd.R_reads' hR11).2.2 (Kd.R_reads' hR11).2.1 ?sd1 ?sd2 ?sd3 ?sd4 HM6.out).mono ?_; (case sd1 => exact (Kd.R_reads' (R_mapped (Kd.R_below N8.out k9) hG11 (Nat.lt_succ_self b))).2.2); (case sd2 => exact (Kd.R_reads' N8.out).2.1); (case sd3 => exact (Kd.R_reads' (R_mapped (Kd.R_below V8.out k9) hG11 (Nat.lt_succ_self b))).2.2); (case sd4 => exact (Kd.R_reads' V8.out).2.1); rintro e w11 ⟨rfl, hb11⟩; have s11 := cs4_below s10 hb11))
          have S11 := Aside0.mk (hS11.below hb11)
          have B11 := Aside0.mk (below_step (below_poll (below_step B8.out k9) hG11 hbe3) hb11)
          have M11 := Aside0.mk (blk_below (blk_grown (blk_below M8.out k9) hG11 (fun e => HBM.out (Option.some.inj e))) hb11)
          have P11 := Aside0.mk (Kd.R_below (R_mapped (Kd.R_below P8.out k9) hG11 (Nat.lt_succ_self b)) hb11)
          have Q11 := Aside0.mk (Kd.R_below (R_mapped (Kd.R_below Q8.out k9) hG11 (Nat.lt_succ_self b)) hb11)
          clear hb9 k9 ho9 hl10 hC10 s8 s9 s10 s11 hR11 hS11 hG11 hb11 S8 M8 T8 P8 Q8 N8 V8 B8 HOq HFq HM6
          go_wp2_with fail
          go_roundw
          case rel => exact ⟨k + 1, n + (msgs a cn).length, _, _, _, _, F', first', mx m a, T', S', A6, A7, by omega, by go_num, ⟨by have := HN4.out; omega⟩, ⟨HR7.out.1, first_next HR7.out.2 HR4.out.2.1, HAs.out.2, rfl, rfl⟩, S11, M11, P11, Q11, B11⟩
          case measure => simp [intOf]; omega
        · obtain ⟨w7, hw7⟩ : ∃ w7, w7 = (((((w6.setCell ⟨W.heap.size, 0, none⟩ (.int .i64 win)).setCell ⟨W.heap.size, 1, none⟩ (.int .i64 retry)).setCell ⟨W.heap.size, 2, none⟩ (.int .i64 first')).setCell ⟨W.heap.size, 3, none⟩ (.slice A6 T'.length c6)).setCell ⟨W.heap.size, 4, none⟩ (.slice A7 S'.length c7)) := ⟨_, rfl⟩
          have hz7 : w7.heap[W.heap.size]? = some (.cells #[.int .i64 win, .int .i64 retry, .int .i64 first', .slice A6 T'.length c6, .slice A7 S'.length c7] 36 (0, 0)) := by rw [hw7]; exact blk5_self ZC.out
          have K7 : Below W.heap.size W w7 := by rw [hw7]; exact below5 (below_step k5 k6) (by first | exact k5.size | exact Nat.le_refl _)
          have P7 := Aside0.mk (show (Kd.int .i64).R 2 w7 (b + 1) (fun _ => True) (.slice A6 T'.length c6) T' by rw [hw7]; exact R5 hp6 ZC.out ty2)
          have Q7 := Aside0.mk (show Kd.bool.R 4 w7 (b + 1) (fun _ => True) (.slice A7 S'.length c7) S' by rw [hw7]; exact R5 hq6 ZC.out ty4)
          have N7 := Aside0.mk (show (Kd.int .i64).R 2 w7 (b + 1) (fun _ => True) (.slice A8 N.length c8) N by rw [hw7]; exact R5 hn6 ZC.out ty2)
          have V7 := Aside0.mk (show (Kd.int .i16).R 49 w7 (b + 1) (fun _ => True) (.slice A9 V.length c9) V by rw [hw7]; exact R5 hv6 ZC.out ty49)
          rw [← hw7]
          clear hw7
          have S7 := Aside0.mk (S4.out.below K7)
          have B7 := Aside0.mk (below_step B4.out K7)
          have T7 := Aside0.mk (blk_below T4.out K7)
          have M7 := Aside0.mk (blk_below M4.out K7)
          generalize W.heap.size = nb at *
          have HX7 := Aside0.mk (show bt ≠ bm by exact hbt)
          obtain ⟨O, hO⟩ : ∃ O, pO F a retry t win (msgs a cn) = O := ⟨_, rfl⟩
          obtain ⟨F', hF'⟩ : ∃ F', pF F a retry t win (msgs a cn).length = F' := ⟨_, rfl⟩
          rw [hO] at hm6
          rw [hF'] at hrs6
          have HOq := Aside0.mk hO
          have HFq := Aside0.mk hF'
          have HM6 := Aside0.mk hm6
          have HR7 := Aside0.mk (show RS F' first' win T' S' ∧ (first' = first ∧ a < 0 ∨ first' = a ∧ 0 ≤ a) from ⟨hrs6, hfi6⟩)
          have e0 : w7.cell? ⟨nb, 0, none⟩ = some (.int .i64 win) := (blk_cell hz7 0).trans rfl
          have e1 : w7.cell? ⟨nb, 1, none⟩ = some (.int .i64 retry) := (blk_cell hz7 1).trans rfl
          have e2 : w7.cell? ⟨nb, 2, none⟩ = some (.int .i64 first') := (blk_cell hz7 2).trans rfl
          have e3 : w7.cell? ⟨nb, 3, none⟩ = some (.slice A6 T'.length c6) := (blk_cell hz7 3).trans rfl
          have e4 : w7.cell? ⟨nb, 4, none⟩ = some (.slice A7 S'.length c7) := (blk_cell hz7 4).trans rfl
          have f0 : w7.cell? ⟨bm, 0, none⟩ = some (.int .i64 win) := (blk_cell M7.out 0).trans rfl
          have f1 : w7.cell? ⟨bm, 1, none⟩ = some (.int .i64 retry) := (blk_cell M7.out 1).trans rfl
          have f2 : w7.cell? ⟨bm, 2, none⟩ = some (.int .i64 first) := (blk_cell M7.out 2).trans rfl
          have f3 : w7.cell? ⟨bm, 3, none⟩ = some (.slice A3 p c3) := (blk_cell M7.out 3).trans rfl
          have f4 : w7.cell? ⟨bm, 4, none⟩ = some (.slice A4 q c4) := (blk_cell M7.out 4).trans rfl
          have y0 := blk_frozen M7.out 0
          have y1 := blk_frozen M7.out 1
          have y2 := blk_frozen M7.out 2
          have y3 := blk_frozen M7.out 3
          have y4 := blk_frozen M7.out 4
          rename_i hHx
          clear hHx
          clear hO hF' hm6 hrs6 hfi6 hp6 hq6 hn6 hv6 hb6 k6 k5 hb5 ho5 hC5 hl5 s4 s5 s6 m4 m5 m6 K7 S4 B4 T4 M4 P4 Q4 HZM HZT HZ5 HY5 hlb5 hz7
          try clear z0 z1 z2 z3 z4
          try clear zb
          try clear ZC
          have hu36 := Try.underlying36
          go_wp2_with fail
          clear e0 e1 e2 e3 e4 f0 f1 f2 f3 f4 y0 y1 y2 y3 y4
          obtain ⟨w8, hw8⟩ : ∃ w8, w8 = (((((w7.setCell ⟨bm, 0, none⟩ (.int .i64 win)).setCell ⟨bm, 1, none⟩ (.int .i64 retry)).setCell ⟨bm, 2, none⟩ (.int .i64 first')).setCell ⟨bm, 3, none⟩ (.slice A6 T'.length c6)).setCell ⟨bm, 4, none⟩ (.slice A7 S'.length c7)) := ⟨_, rfl⟩
          have S8 := Aside0.mk (show Snd w8 g b win retry n F by rw [hw8]; exact Snd5 S7.out M7.out)
          have M8 := Aside0.mk (show w8.heap[bm]? = some (.cells #[.int .i64 win, .int .i64 retry, .int .i64 first', .slice A6 T'.length c6, .slice A7 S'.length c7] 36 (0, 0)) by rw [hw8]; exact blk5_self M7.out)
          have T8 := Aside0.mk (show w8.heap[bt]? = some (.cells #[.int .i64 a, .int .u8 cn, .int .i64 t, .bool rs] 43 (0, 0)) by rw [hw8]; exact blk5_other T7.out HX7.out)
          have P8 := Aside0.mk (show (Kd.int .i64).R 2 w8 (b + 1) (fun _ => True) (.slice A6 T'.length c6) T' by rw [hw8]; exact R5 P7.out M7.out ty2)
          have Q8 := Aside0.mk (show Kd.bool.R 4 w8 (b + 1) (fun _ => True) (.slice A7 S'.length c7) S' by rw [hw8]; exact R5 Q7.out M7.out ty4)
          have N8 := Aside0.mk (show (Kd.int .i64).R 2 w8 (b + 1) (fun _ => True) (.slice A8 N.length c8) N by rw [hw8]; exact R5 N7.out M7.out ty2)
          have V8 := Aside0.mk (show (Kd.int .i16).R 49 w8 (b + 1) (fun _ => True) (.slice A9 V.length c9) V by rw [hw8]; exact R5 V7.out M7.out ty49)
          have B8 := Aside0.mk (show Below w.heap.size w w8 by rw [hw8]; exact below5 B7.out hwm)
          rw [← hw8]
          clear hw8 S7 M7 T7 P7 Q7 N7 V7 B7
          have s8 := cs4 (w := w8.drew) T8.out
          have hlb8 : b < w8.heap.size := S8.out.ltb
          have HBM := Aside0.mk (show bm ≠ b by omega)
          have HBB := Aside0.mk (show bt ≠ b by exact hbb)
          go_region_held3 (fun w' => w'.cell? ⟨bt, 0, none⟩ = some (.int .i64 a) ∧ w'.cell? ⟨bt, 1, none⟩ = some (.int .u8 cn) ∧ w'.cell? ⟨bt, 2, none⟩ = some (.int .i64 t) ∧ w'.cell? ⟨bt, 3, none⟩ = some (.bool rs)) (first | (with_reducible exact s8) | (with_reducible exact s9) | (with_reducible exact s10) | (with_reducible exact s11))
              (first
                | (go_at_call 16; refine (tricklelaw45_Call_messages.calls 51 a cn t rs _ _ (msgs_tells a cn t rs hc1 hc2)).mono ?_; rintro e w9 ⟨v10, rfl, ho9, hb9⟩; obtain ⟨A10, c10, rfl, hl10, hC10⟩ := Kd.R_reads ho9; have k9 : Below w8.heap.size w8 w9 := (by first | exact hb9 | exact Below.trans (below_drew (Below.refl _ _)) hb9); have s9 := cs4_below (w := w8) s8 k9; have hlz9 : b < w9.heap.size := (by have := k9.size; omega))
                | (go_at_call 17; refine (poll_z g b b n win retry a t A10 _ c10 (msgs a cn) F F' O _ ?side2 hlz9 HG.out ?side3 ?side4 ?side6 ?side7 ?side8 hl10 rfl HOq.out HFq.out).mono ?_; (case side2 => exact S8.out.below k9); (case side3 => exact ⟨by omega, by omega⟩); (case side4 => exact ⟨by omega, by omega⟩); (case side6 => omega); (case side7 => have := HN4.out; omega); (case side8 => exact hC10); rintro e w10 ⟨A11, c11, rfl, hR11, hS11, hG11⟩; have s10 := cs4_grown s9 hG11 HBB.out)
                | (go_at_call 22; refine (tricklelaw45_matches.calls 1001 A11 c11 O A8 c8 N A9 c9 V true _ (Kd.R_reads' hR11).2.2 (Kd.R_reads' hR11).2.1 ?sd1 ?sd2 ?sd3 ?sd4 HM6.out).mono ?_; (case sd1 => exact (Kd.R_reads' (R_mapped (Kd.R_below N8.out k9) hG11 (Nat.lt_succ_self b))).2.2); (case sd2 => exact (Kd.R_reads' N8.out).2.1); (case sd3 => exact (Kd.R_reads' (R_mapped (Kd.R_below V8.out k9) hG11 (Nat.lt_succ_self b))).2.2); (case sd4 => exact (Kd.R_reads' V8.out).2.1); rintro e w11 ⟨rfl, hb11⟩; have s11 := cs4_below s10 hb11))
          have S11 := Aside0.mk (hS11.below hb11)
          have B11 := Aside0.mk (below_step (below_poll (below_step B8.out k9) hG11 hbe3) hb11)
          have M11 := Aside0.mk (blk_below (blk_grown (blk_below M8.out k9) hG11 (fun e => HBM.out (Option.some.inj e))) hb11)
          have P11 := Aside0.mk (Kd.R_below (R_mapped (Kd.R_below P8.out k9) hG11 (Nat.lt_succ_self b)) hb11)
          have Q11 := Aside0.mk (Kd.R_below (R_mapped (Kd.R_below Q8.out k9) hG11 (Nat.lt_succ_self b)) hb11)
          clear hb9 k9 ho9 hl10 hC10 s8 s9 s10 s11 hR11 hS11 hG11 hb11 S8 M8 T8 P8 Q8 N8 V8 B8 HOq HFq HM6
          go_wp2_with fail
          go_roundw
          case rel => exact ⟨k + 1, n + (msgs a cn).length, _, _, _, _, F', first', mx m a, T', S', A6, A7, by omega, by go_num, ⟨by have := HN4.out; omega⟩, ⟨HR7.out.1, first_next HR7.out.2 HR4.out.2.1, HAs.out.2, rfl, rfl⟩, S11, M11, P11, Q11, B11⟩
          case measure => simp [intOf]; omega
      · clear d2 d3
        have hbmb : bm ≠ b := by omega
        go_wp2_with fail
        refine (restart_any g b n win retry F _ S4.out).mono ?_
        rintro e w5 ⟨rfl, hs5, hg5⟩
        have S5 := Aside0.mk hs5
        have B5 := Aside0.mk (below_poll B4.out hg5 hbe3)
        have T5 := Aside0.mk (blk_grown T4.out hg5 (fun e => hbb (Option.some.inj e)))
        have M5 := Aside0.mk (blk_grown M4.out hg5 (fun e => hbmb (Option.some.inj e)))
        have HSC := Aside0.mk HRS.out.2.2.1
        clear hs5 hg5 S4 B4 T4 M4 P4 Q4 HS' HB' HM' HP' HQ' r0 r1 r2 r3 HNn HRS
        go_wp2_with fail
        refine (trickleref45_New.calls win retry _ _ _ _ _ _ w5 HN.out).mono ?_
        rintro e w6 ⟨v3, v4, rfl, ho3, ho4, hb6⟩
        obtain ⟨A3', c3', rfl⟩ := Kd.R_slice ho3
        obtain ⟨A4', c4', rfl⟩ := Kd.R_slice ho4
        have S6 := Aside0.mk (S5.out.below hb6)
        have B6 := Aside0.mk (below_step B5.out hb6)
        have T6 := Aside0.mk (blk_below T5.out hb6)
        have M6 := Aside0.mk (blk_below M5.out hb6)
        have P6 := Aside0.mk (Kd.R_lower ho3 S5.out.ltb)
        have Q6 := Aside0.mk (Kd.R_lower ho4 S5.out.ltb)
        have f0 : w6.cell? ⟨bm, 0, none⟩ = some (.int .i64 win) := (blk_cell M6.out 0).trans rfl
        have f1 : w6.cell? ⟨bm, 1, none⟩ = some (.int .i64 retry) := (blk_cell M6.out 1).trans rfl
        have f2 : w6.cell? ⟨bm, 2, none⟩ = some (.int .i64 first) := (blk_cell M6.out 2).trans rfl
        have f3 : w6.cell? ⟨bm, 3, none⟩ = some (.slice A3 p c3) := (blk_cell M6.out 3).trans rfl
        have f4 : w6.cell? ⟨bm, 4, none⟩ = some (.slice A4 q c4) := (blk_cell M6.out 4).trans rfl
        have y0 := blk_frozen M6.out 0
        have y1 := blk_frozen M6.out 1
        have y2 := blk_frozen M6.out 2
        have y3 := blk_frozen M6.out 3
        have y4 := blk_frozen M6.out 4
        clear ho3 ho4 hb6 S5 B5 T5 M5
        have hu36 := Try.underlying36
        go_wp2_with fail
        clear f0 f1 f2 f3 f4 y0 y1 y2 y3 y4
        obtain ⟨W, hW⟩ : ∃ W, W = (((((w6.setCell ⟨bm, 0, none⟩ (.int .i64 win)).setCell ⟨bm, 1, none⟩ (.int .i64 retry)).setCell ⟨bm, 2, none⟩ (.int .i64 0)).setCell ⟨bm, 3, none⟩ (.slice A3' 0 c3')).setCell ⟨bm, 4, none⟩ (.slice A4' 0 c4')) := ⟨_, rfl⟩
        have hS : Snd W g b win retry 0 (fun _ => none) := by rw [hW]; exact Snd5 S6.out M6.out
        have hM : W.heap[bm]? = some (.cells #[.int .i64 win, .int .i64 retry, .int .i64 0, .slice A3' 0 c3', .slice A4' 0 c4'] 36 (0, 0)) := by rw [hW]; exact blk5_self M6.out
        have T4 := Aside0.mk (show W.heap[wr.heap.size]? = some (.cells #[.int .i64 a, .int .u8 cn, .int .i64 t, .bool true] 43 (0, 0)) by rw [hW]; exact blk5_other T6.out hbt)
        have hP : (Kd.int .i64).R 2 W (b + 1) (fun _ => True) (.slice A3' 0 c3') [] := by rw [hW]; exact R5 P6.out M6.out ty2
        have hQ : Kd.bool.R 4 W (b + 1) (fun _ => True) (.slice A4' 0 c4') [] := by rw [hW]; exact R5 Q6.out M6.out ty4
        have B4 := Aside0.mk (show Below w.heap.size w W by rw [hW]; exact below5 B6.out hwm)
        rw [← hW]
        clear hW S6 M6 T6 P6 Q6 B6
        have h0m : (0 : Int) ≤ mx m 0 := by unfold mx; split <;> omega
        obtain ⟨n, F, first, p, q, T, S, A3, A4, c3, c4, S4, M4, P4, Q4, HR4, HN4, hfa⟩ : ∃ (n : Nat) (F : Int → Option Int) (first : Int) (p q : Nat) (T : List Int) (S : List Bool) (A3 A4 : Option Addr) (c3 c4 : Nat), Aside0 (Snd W g b win retry n F) ∧ Aside0 (W.heap[bm]? = some (.cells #[.int .i64 win, .int .i64 retry, .int .i64 first, .slice A3 p c3, .slice A4 q c4] 36 (0, 0))) ∧ Aside0 ((Kd.int .i64).R 2 W (b + 1) (fun _ => True) (.slice A3 p c3) T) ∧ Aside0 (Kd.bool.R 4 W (b + 1) (fun _ => True) (.slice A4 q c4) S) ∧ Aside0 (RS F first win T S ∧ first ≤ mx m 0 ∧ p = T.length ∧ q = S.length) ∧ Aside0 (n ≤ 60 * k) ∧ (0 ≤ a → first ≤ a) :=
          ⟨0, fun _ => none, 0, 0, 0, [], [], A3', A4', c3', c4', ⟨hS⟩, ⟨hM⟩, ⟨hP⟩, ⟨hQ⟩, ⟨RS_start win HG.out.1, h0m, rfl, rfl⟩, ⟨Nat.zero_le _⟩, id⟩
        clear hS hM hP hQ h0m
        obtain ⟨rs, hRS2⟩ : ∃ rs, rs = true := ⟨_, rfl⟩
        rw [← hRS2] at T4
        generalize wr.heap.size = bt at *
        clear hRS2 hu36
        have s4 := cs4 (w := W.drew) T4.out
        have m4 := ms5 (w := W.drew) M4.out
        have hlb : b < W.heap.size := S4.out.ltb
        have HZM := Aside0.mk (show bm ≠ W.heap.size by have := blk_lt M4.out; omega)
        have HZT := Aside0.mk (show bt ≠ W.heap.size by have := blk_lt T4.out; omega)
        go_region_held3 (fun w' => (w'.cell? ⟨bm, 0, none⟩ = some (.int .i64 win) ∧ w'.cell? ⟨bm, 1, none⟩ = some (.int .i64 retry) ∧ w'.cell? ⟨bm, 2, none⟩ = some (.int .i64 first) ∧ w'.cell? ⟨bm, 3, none⟩ = some (.slice A3 p c3) ∧ w'.cell? ⟨bm, 4, none⟩ = some (.slice A4 q c4)) ∧ (w'.cell? ⟨bt, 0, none⟩ = some (.int .i64 a) ∧ w'.cell? ⟨bt, 1, none⟩ = some (.int .u8 cn) ∧ w'.cell? ⟨bt, 2, none⟩ = some (.int .i64 t) ∧ w'.cell? ⟨bt, 3, none⟩ = some (.bool rs))) (first | (with_reducible exact ⟨m6, s6⟩) | (with_reducible exact ⟨ms5_set5 m6 HZM.out, cs4_set5 s6 HZT.out⟩) | (with_reducible exact ⟨ms5_set5 m6 HZ5.out, cs4_set5 s6 HY5.out⟩) | (with_reducible exact ⟨m5, s5⟩) | (with_reducible exact ⟨m4, s4⟩) | (with_reducible exact ⟨ms5_below m6 (below_alloc (Below.refl _ _) _), cs4_below s6 (below_alloc (Below.refl _ _) _)⟩) | (with_reducible exact ⟨ms5_below m5 (below_alloc (Below.refl _ _) _), cs4_below s5 (below_alloc (Below.refl _ _) _)⟩) | (with_reducible exact ⟨ms5_below m4 (below_alloc (Below.refl _ _) _), cs4_below s4 (below_alloc (Below.refl _ _) _)⟩) | (trace_state; fail))
          (first
            | (go_at_call 16; refine (tricklelaw45_Call_messages.calls 51 a cn t rs _ _ (msgs_tells a cn t rs hc1 hc2)).mono ?_; rintro e w5 ⟨v5, rfl, ho5, hb5⟩; obtain ⟨A5, c5, rfl, hl5, hC5⟩ := Kd.R_reads ho5; have k5 : Below W.heap.size W w5 := (by first | exact Below.trans (below_drew (Below.refl _ _)) hb5 | exact Below.trans (below_alloc (below_drew (Below.refl _ _)) _) (hb5.mono (by simp))); have s5 := cs4_below (w := W) s4 k5; have m5 := ms5_below (w := W) m4 k5; have hlb5 : b < w5.heap.size := (by have := k5.size; omega); (try (have zb : w5.heap[W.heap.size]? = some (.cells #[.int .i64 0, .int .i64 0, .int .i64 0, .slice none 0 0, .slice none 0 0] 36 (0, 0)) := blk_below (show (W.drew.alloc (.cells #[.int .i64 0, .int .i64 0, .int .i64 0, .slice none 0 0, .slice none 0 0] 36)).heap[W.heap.size]? = _ from blk_new W.drew _) hb5)); have HZ5 := Aside0.mk (show bm ≠ w5.heap.size by have := k5.size; have := blk_lt M4.out; omega); have HY5 := Aside0.mk (show bt ≠ w5.heap.size by have := k5.size; have := blk_lt T4.out; omega))
            | (go_at_call 21; refine (refpoll_z b win retry first a t A3 A4 A5 p c3 q c4 _ c5 T S (msgs a cn) F _ ?hb HR4.out.1 HG.out HR4.out.2.2.1 HR4.out.2.2.2 rfl ?h3 ?h4 ?h2 hl5 ha3 ?hf ?ht ?hl).mono ?_; (case hb => (first | exact hlb5 | (simp; omega))); (case h3 => (first | exact Kd.R_below P4.out k5 | exact Kd.R_alloc (Kd.R_below P4.out k5) _)); (case h4 => (first | exact Kd.R_below Q4.out k5 | exact Kd.R_alloc (Kd.R_below Q4.out k5) _)); (case h2 => (first | exact hC5 | exact Kd.C_alloc hC5 _)); (case hf => exact hfa); (case ht => exact ⟨by omega, by omega⟩); (case hl => omega); rintro e w6 ⟨first', T', S', A6, c6, A7, c7, A8, c8, A9, c9, N, V, rfl, hrs6, hfi6, hp6, hq6, hn6, hv6, hm6, hb6⟩; have k6 : Below w5.heap.size w5 w6 := (by first | exact hb6 | exact Below.trans (below_alloc (Below.refl _ _) _) (hb6.mono (by simp))); have s6 := cs4_below s5 k6; have m6 := ms5_below m5 k6; (try (have zc : w6.heap[W.heap.size]? = some (.cells #[.int .i64 0, .int .i64 0, .int .i64 0, .slice none 0 0, .slice none 0 0] 36 (0, 0)) := blk_below zb hb6)); (try (have zc : w6.heap[w5.heap.size]? = some (.cells #[.int .i64 0, .int .i64 0, .int .i64 0, .slice none 0 0, .slice none 0 0] 36 (0, 0)) := blk_below (blk_new w5 _) hb6)); (try (have z0 := (blk_cell zc 0).trans (show _ = some (Value.int .i64 0) from rfl); have z1 := (blk_cell zc 1).trans (show _ = some (Value.int .i64 0) from rfl); have z2 := (blk_cell zc 2).trans (show _ = some (Value.int .i64 0) from rfl); have z3 := (blk_cell zc 3).trans (show _ = some (Value.slice none 0 0) from rfl); have z4 := (blk_cell zc 4).trans (show _ = some (Value.slice none 0 0) from rfl); have y0 := blk_frozen zc 0; have y1 := blk_frozen zc 1; have y2 := blk_frozen zc 2; have y3 := blk_frozen zc 3; have y4 := blk_frozen zc 4; have ZC := Aside0.mk zc; clear zc))))
        · obtain ⟨w7, hw7⟩ : ∃ w7, w7 = (w6.alloc (.cells #[.int .i64 win, .int .i64 retry, .int .i64 first', .slice A6 T'.length c6, .slice A7 S'.length c7] 36)) := ⟨_, rfl⟩
          have hz7 : w7.heap[w6.heap.size]? = some (.cells #[.int .i64 win, .int .i64 retry, .int .i64 first', .slice A6 T'.length c6, .slice A7 S'.length c7] 36 (0, 0)) := by rw [hw7]; exact blk_new w6 _
          have K7 : Below W.heap.size W w7 := by rw [hw7]; exact below_alloc (below_step k5 k6) _
          have P7 := Aside0.mk (show (Kd.int .i64).R 2 w7 (b + 1) (fun _ => True) (.slice A6 T'.length c6) T' by rw [hw7]; exact Kd.R_alloc hp6 (.cells #[.int .i64 win, .int .i64 retry, .int .i64 first', .slice A6 T'.length c6, .slice A7 S'.length c7] 36))
          have Q7 := Aside0.mk (show Kd.bool.R 4 w7 (b + 1) (fun _ => True) (.slice A7 S'.length c7) S' by rw [hw7]; exact Kd.R_alloc hq6 (.cells #[.int .i64 win, .int .i64 retry, .int .i64 first', .slice A6 T'.length c6, .slice A7 S'.length c7] 36))
          have N7 := Aside0.mk (show (Kd.int .i64).R 2 w7 (b + 1) (fun _ => True) (.slice A8 N.length c8) N by rw [hw7]; exact Kd.R_alloc hn6 (.cells #[.int .i64 win, .int .i64 retry, .int .i64 first', .slice A6 T'.length c6, .slice A7 S'.length c7] 36))
          have V7 := Aside0.mk (show (Kd.int .i16).R 49 w7 (b + 1) (fun _ => True) (.slice A9 V.length c9) V by rw [hw7]; exact Kd.R_alloc hv6 (.cells #[.int .i64 win, .int .i64 retry, .int .i64 first', .slice A6 T'.length c6, .slice A7 S'.length c7] 36))
          rw [← hw7]
          clear hw7
          have S7 := Aside0.mk (S4.out.below K7)
          have B7 := Aside0.mk (below_step B4.out K7)
          have T7 := Aside0.mk (blk_below T4.out K7)
          have M7 := Aside0.mk (blk_below M4.out K7)
          generalize w6.heap.size = nb at *
          have HX7 := Aside0.mk (show bt ≠ bm by exact hbt)
          obtain ⟨O, hO⟩ : ∃ O, pO F a retry t win (msgs a cn) = O := ⟨_, rfl⟩
          obtain ⟨F', hF'⟩ : ∃ F', pF F a retry t win (msgs a cn).length = F' := ⟨_, rfl⟩
          rw [hO] at hm6
          rw [hF'] at hrs6
          have HOq := Aside0.mk hO
          have HFq := Aside0.mk hF'
          have HM6 := Aside0.mk hm6
          have HR7 := Aside0.mk (show RS F' first' win T' S' ∧ (first' = first ∧ a < 0 ∨ first' = a ∧ 0 ≤ a) from ⟨hrs6, hfi6⟩)
          have e0 : w7.cell? ⟨nb, 0, none⟩ = some (.int .i64 win) := (blk_cell hz7 0).trans rfl
          have e1 : w7.cell? ⟨nb, 1, none⟩ = some (.int .i64 retry) := (blk_cell hz7 1).trans rfl
          have e2 : w7.cell? ⟨nb, 2, none⟩ = some (.int .i64 first') := (blk_cell hz7 2).trans rfl
          have e3 : w7.cell? ⟨nb, 3, none⟩ = some (.slice A6 T'.length c6) := (blk_cell hz7 3).trans rfl
          have e4 : w7.cell? ⟨nb, 4, none⟩ = some (.slice A7 S'.length c7) := (blk_cell hz7 4).trans rfl
          have f0 : w7.cell? ⟨bm, 0, none⟩ = some (.int .i64 win) := (blk_cell M7.out 0).trans rfl
          have f1 : w7.cell? ⟨bm, 1, none⟩ = some (.int .i64 retry) := (blk_cell M7.out 1).trans rfl
          have f2 : w7.cell? ⟨bm, 2, none⟩ = some (.int .i64 first) := (blk_cell M7.out 2).trans rfl
          have f3 : w7.cell? ⟨bm, 3, none⟩ = some (.slice A3 p c3) := (blk_cell M7.out 3).trans rfl
          have f4 : w7.cell? ⟨bm, 4, none⟩ = some (.slice A4 q c4) := (blk_cell M7.out 4).trans rfl
          have y0 := blk_frozen M7.out 0
          have y1 := blk_frozen M7.out 1
          have y2 := blk_frozen M7.out 2
          have y3 := blk_frozen M7.out 3
          have y4 := blk_frozen M7.out 4
          rename_i hHx
          clear hHx
          clear hO hF' hm6 hrs6 hfi6 hp6 hq6 hn6 hv6 hb6 k6 k5 hb5 ho5 hC5 hl5 s4 s5 s6 m4 m5 m6 K7 S4 B4 T4 M4 P4 Q4 HZM HZT HZ5 HY5 hlb5 hz7
          try clear z0 z1 z2 z3 z4
          try clear zb
          try clear ZC
          have hu36 := Try.underlying36
          go_wp2_with fail
          clear e0 e1 e2 e3 e4 f0 f1 f2 f3 f4 y0 y1 y2 y3 y4
          obtain ⟨w8, hw8⟩ : ∃ w8, w8 = (((((w7.setCell ⟨bm, 0, none⟩ (.int .i64 win)).setCell ⟨bm, 1, none⟩ (.int .i64 retry)).setCell ⟨bm, 2, none⟩ (.int .i64 first')).setCell ⟨bm, 3, none⟩ (.slice A6 T'.length c6)).setCell ⟨bm, 4, none⟩ (.slice A7 S'.length c7)) := ⟨_, rfl⟩
          have S8 := Aside0.mk (show Snd w8 g b win retry n F by rw [hw8]; exact Snd5 S7.out M7.out)
          have M8 := Aside0.mk (show w8.heap[bm]? = some (.cells #[.int .i64 win, .int .i64 retry, .int .i64 first', .slice A6 T'.length c6, .slice A7 S'.length c7] 36 (0, 0)) by rw [hw8]; exact blk5_self M7.out)
          have T8 := Aside0.mk (show w8.heap[bt]? = some (.cells #[.int .i64 a, .int .u8 cn, .int .i64 t, .bool rs] 43 (0, 0)) by rw [hw8]; exact blk5_other T7.out HX7.out)
          have P8 := Aside0.mk (show (Kd.int .i64).R 2 w8 (b + 1) (fun _ => True) (.slice A6 T'.length c6) T' by rw [hw8]; exact R5 P7.out M7.out ty2)
          have Q8 := Aside0.mk (show Kd.bool.R 4 w8 (b + 1) (fun _ => True) (.slice A7 S'.length c7) S' by rw [hw8]; exact R5 Q7.out M7.out ty4)
          have N8 := Aside0.mk (show (Kd.int .i64).R 2 w8 (b + 1) (fun _ => True) (.slice A8 N.length c8) N by rw [hw8]; exact R5 N7.out M7.out ty2)
          have V8 := Aside0.mk (show (Kd.int .i16).R 49 w8 (b + 1) (fun _ => True) (.slice A9 V.length c9) V by rw [hw8]; exact R5 V7.out M7.out ty49)
          have B8 := Aside0.mk (show Below w.heap.size w w8 by rw [hw8]; exact below5 B7.out hwm)
          rw [← hw8]
          clear hw8 S7 M7 T7 P7 Q7 N7 V7 B7
          have s8 := cs4 (w := w8.drew) T8.out
          have hlb8 : b < w8.heap.size := S8.out.ltb
          have HBM := Aside0.mk (show bm ≠ b by omega)
          have HBB := Aside0.mk (show bt ≠ b by exact hbb)
          go_region_held3 (fun w' => w'.cell? ⟨bt, 0, none⟩ = some (.int .i64 a) ∧ w'.cell? ⟨bt, 1, none⟩ = some (.int .u8 cn) ∧ w'.cell? ⟨bt, 2, none⟩ = some (.int .i64 t) ∧ w'.cell? ⟨bt, 3, none⟩ = some (.bool rs)) (first | (with_reducible exact s8) | (with_reducible exact s9) | (with_reducible exact s10) | (with_reducible exact s11))
              (first
                | (go_at_call 16; refine (tricklelaw45_Call_messages.calls 51 a cn t rs _ _ (msgs_tells a cn t rs hc1 hc2)).mono ?_; rintro e w9 ⟨v10, rfl, ho9, hb9⟩; obtain ⟨A10, c10, rfl, hl10, hC10⟩ := Kd.R_reads ho9; have k9 : Below w8.heap.size w8 w9 := (by first | exact hb9 | exact Below.trans (below_drew (Below.refl _ _)) hb9); have s9 := cs4_below (w := w8) s8 k9; have hlz9 : b < w9.heap.size := (by have := k9.size; omega))
                | (go_at_call 17; refine (poll_z g b b n win retry a t A10 _ c10 (msgs a cn) F F' O _ ?side2 hlz9 HG.out ?side3 ?side4 ?side6 ?side7 ?side8 hl10 rfl HOq.out HFq.out).mono ?_; (case side2 => exact S8.out.below k9); (case side3 => exact ⟨by omega, by omega⟩); (case side4 => exact ⟨by omega, by omega⟩); (case side6 => omega); (case side7 => have := HN4.out; omega); (case side8 => exact hC10); rintro e w10 ⟨A11, c11, rfl, hR11, hS11, hG11⟩; have s10 := cs4_grown s9 hG11 HBB.out)
                | (go_at_call 22; refine (tricklelaw45_matches.calls 1001 A11 c11 O A8 c8 N A9 c9 V true _ (Kd.R_reads' hR11).2.2 (Kd.R_reads' hR11).2.1 ?sd1 ?sd2 ?sd3 ?sd4 HM6.out).mono ?_; (case sd1 => exact (Kd.R_reads' (R_mapped (Kd.R_below N8.out k9) hG11 (Nat.lt_succ_self b))).2.2); (case sd2 => exact (Kd.R_reads' N8.out).2.1); (case sd3 => exact (Kd.R_reads' (R_mapped (Kd.R_below V8.out k9) hG11 (Nat.lt_succ_self b))).2.2); (case sd4 => exact (Kd.R_reads' V8.out).2.1); rintro e w11 ⟨rfl, hb11⟩; have s11 := cs4_below s10 hb11))
          have S11 := Aside0.mk (hS11.below hb11)
          have B11 := Aside0.mk (below_step (below_poll (below_step B8.out k9) hG11 hbe3) hb11)
          have M11 := Aside0.mk (blk_below (blk_grown (blk_below M8.out k9) hG11 (fun e => HBM.out (Option.some.inj e))) hb11)
          have P11 := Aside0.mk (Kd.R_below (R_mapped (Kd.R_below P8.out k9) hG11 (Nat.lt_succ_self b)) hb11)
          have Q11 := Aside0.mk (Kd.R_below (R_mapped (Kd.R_below Q8.out k9) hG11 (Nat.lt_succ_self b)) hb11)
          clear hb9 k9 ho9 hl10 hC10 s8 s9 s10 s11 hR11 hS11 hG11 hb11 S8 M8 T8 P8 Q8 N8 V8 B8 HOq HFq HM6
          go_wp2_with fail
          go_roundw
          case rel => exact ⟨k + 1, n + (msgs a cn).length, _, _, _, _, F', first', mx m a, T', S', A6, A7, by omega, by go_num, ⟨by have := HN4.out; omega⟩, ⟨HR7.out.1, first_next HR7.out.2 HR4.out.2.1, HAs.out.2, rfl, rfl⟩, S11, M11, P11, Q11, B11⟩
          case measure => simp [intOf]; omega
        · obtain ⟨w7, hw7⟩ : ∃ w7, w7 = (((((w6.setCell ⟨w5.heap.size, 0, none⟩ (.int .i64 win)).setCell ⟨w5.heap.size, 1, none⟩ (.int .i64 retry)).setCell ⟨w5.heap.size, 2, none⟩ (.int .i64 first')).setCell ⟨w5.heap.size, 3, none⟩ (.slice A6 T'.length c6)).setCell ⟨w5.heap.size, 4, none⟩ (.slice A7 S'.length c7)) := ⟨_, rfl⟩
          have hz7 : w7.heap[w5.heap.size]? = some (.cells #[.int .i64 win, .int .i64 retry, .int .i64 first', .slice A6 T'.length c6, .slice A7 S'.length c7] 36 (0, 0)) := by rw [hw7]; exact blk5_self ZC.out
          have K7 : Below W.heap.size W w7 := by rw [hw7]; exact below5 (below_step k5 k6) (by first | exact k5.size | exact Nat.le_refl _)
          have P7 := Aside0.mk (show (Kd.int .i64).R 2 w7 (b + 1) (fun _ => True) (.slice A6 T'.length c6) T' by rw [hw7]; exact R5 hp6 ZC.out ty2)
          have Q7 := Aside0.mk (show Kd.bool.R 4 w7 (b + 1) (fun _ => True) (.slice A7 S'.length c7) S' by rw [hw7]; exact R5 hq6 ZC.out ty4)
          have N7 := Aside0.mk (show (Kd.int .i64).R 2 w7 (b + 1) (fun _ => True) (.slice A8 N.length c8) N by rw [hw7]; exact R5 hn6 ZC.out ty2)
          have V7 := Aside0.mk (show (Kd.int .i16).R 49 w7 (b + 1) (fun _ => True) (.slice A9 V.length c9) V by rw [hw7]; exact R5 hv6 ZC.out ty49)
          rw [← hw7]
          clear hw7
          have S7 := Aside0.mk (S4.out.below K7)
          have B7 := Aside0.mk (below_step B4.out K7)
          have T7 := Aside0.mk (blk_below T4.out K7)
          have M7 := Aside0.mk (blk_below M4.out K7)
          generalize w5.heap.size = nb at *
          have HX7 := Aside0.mk (show bt ≠ bm by exact hbt)
          obtain ⟨O, hO⟩ : ∃ O, pO F a retry t win (msgs a cn) = O := ⟨_, rfl⟩
          obtain ⟨F', hF'⟩ : ∃ F', pF F a retry t win (msgs a cn).length = F' := ⟨_, rfl⟩
          rw [hO] at hm6
          rw [hF'] at hrs6
          have HOq := Aside0.mk hO
          have HFq := Aside0.mk hF'
          have HM6 := Aside0.mk hm6
          have HR7 := Aside0.mk (show RS F' first' win T' S' ∧ (first' = first ∧ a < 0 ∨ first' = a ∧ 0 ≤ a) from ⟨hrs6, hfi6⟩)
          have e0 : w7.cell? ⟨nb, 0, none⟩ = some (.int .i64 win) := (blk_cell hz7 0).trans rfl
          have e1 : w7.cell? ⟨nb, 1, none⟩ = some (.int .i64 retry) := (blk_cell hz7 1).trans rfl
          have e2 : w7.cell? ⟨nb, 2, none⟩ = some (.int .i64 first') := (blk_cell hz7 2).trans rfl
          have e3 : w7.cell? ⟨nb, 3, none⟩ = some (.slice A6 T'.length c6) := (blk_cell hz7 3).trans rfl
          have e4 : w7.cell? ⟨nb, 4, none⟩ = some (.slice A7 S'.length c7) := (blk_cell hz7 4).trans rfl
          have f0 : w7.cell? ⟨bm, 0, none⟩ = some (.int .i64 win) := (blk_cell M7.out 0).trans rfl
          have f1 : w7.cell? ⟨bm, 1, none⟩ = some (.int .i64 retry) := (blk_cell M7.out 1).trans rfl
          have f2 : w7.cell? ⟨bm, 2, none⟩ = some (.int .i64 first) := (blk_cell M7.out 2).trans rfl
          have f3 : w7.cell? ⟨bm, 3, none⟩ = some (.slice A3 p c3) := (blk_cell M7.out 3).trans rfl
          have f4 : w7.cell? ⟨bm, 4, none⟩ = some (.slice A4 q c4) := (blk_cell M7.out 4).trans rfl
          have y0 := blk_frozen M7.out 0
          have y1 := blk_frozen M7.out 1
          have y2 := blk_frozen M7.out 2
          have y3 := blk_frozen M7.out 3
          have y4 := blk_frozen M7.out 4
          rename_i hHx
          clear hHx
          clear hO hF' hm6 hrs6 hfi6 hp6 hq6 hn6 hv6 hb6 k6 k5 hb5 ho5 hC5 hl5 s4 s5 s6 m4 m5 m6 K7 S4 B4 T4 M4 P4 Q4 HZM HZT HZ5 HY5 hlb5 hz7
          try clear z0 z1 z2 z3 z4
          try clear zb
          try clear ZC
          have hu36 := Try.underlying36
          go_wp2_with fail
          clear e0 e1 e2 e3 e4 f0 f1 f2 f3 f4 y0 y1 y2 y3 y4
          obtain ⟨w8, hw8⟩ : ∃ w8, w8 = (((((w7.setCell ⟨bm, 0, none⟩ (.int .i64 win)).setCell ⟨bm, 1, none⟩ (.int .i64 retry)).setCell ⟨bm, 2, none⟩ (.int .i64 first')).setCell ⟨bm, 3, none⟩ (.slice A6 T'.length c6)).setCell ⟨bm, 4, none⟩ (.slice A7 S'.length c7)) := ⟨_, rfl⟩
          have S8 := Aside0.mk (show Snd w8 g b win retry n F by rw [hw8]; exact Snd5 S7.out M7.out)
          have M8 := Aside0.mk (show w8.heap[bm]? = some (.cells #[.int .i64 win, .int .i64 retry, .int .i64 first', .slice A6 T'.length c6, .slice A7 S'.length c7] 36 (0, 0)) by rw [hw8]; exact blk5_self M7.out)
          have T8 := Aside0.mk (show w8.heap[bt]? = some (.cells #[.int .i64 a, .int .u8 cn, .int .i64 t, .bool rs] 43 (0, 0)) by rw [hw8]; exact blk5_other T7.out HX7.out)
          have P8 := Aside0.mk (show (Kd.int .i64).R 2 w8 (b + 1) (fun _ => True) (.slice A6 T'.length c6) T' by rw [hw8]; exact R5 P7.out M7.out ty2)
          have Q8 := Aside0.mk (show Kd.bool.R 4 w8 (b + 1) (fun _ => True) (.slice A7 S'.length c7) S' by rw [hw8]; exact R5 Q7.out M7.out ty4)
          have N8 := Aside0.mk (show (Kd.int .i64).R 2 w8 (b + 1) (fun _ => True) (.slice A8 N.length c8) N by rw [hw8]; exact R5 N7.out M7.out ty2)
          have V8 := Aside0.mk (show (Kd.int .i16).R 49 w8 (b + 1) (fun _ => True) (.slice A9 V.length c9) V by rw [hw8]; exact R5 V7.out M7.out ty49)
          have B8 := Aside0.mk (show Below w.heap.size w w8 by rw [hw8]; exact below5 B7.out hwm)
          rw [← hw8]
          clear hw8 S7 M7 T7 P7 Q7 N7 V7 B7
          have s8 := cs4 (w := w8.drew) T8.out
          have hlb8 : b < w8.heap.size := S8.out.ltb
          have HBM := Aside0.mk (show bm ≠ b by omega)
          have HBB := Aside0.mk (show bt ≠ b by exact hbb)
          go_region_held3 (fun w' => w'.cell? ⟨bt, 0, none⟩ = some (.int .i64 a) ∧ w'.cell? ⟨bt, 1, none⟩ = some (.int .u8 cn) ∧ w'.cell? ⟨bt, 2, none⟩ = some (.int .i64 t) ∧ w'.cell? ⟨bt, 3, none⟩ = some (.bool rs)) (first | (with_reducible exact s8) | (with_reducible exact s9) | (with_reducible exact s10) | (with_reducible exact s11))
              (first
                | (go_at_call 16; refine (tricklelaw45_Call_messages.calls 51 a cn t rs _ _ (msgs_tells a cn t rs hc1 hc2)).mono ?_; rintro e w9 ⟨v10, rfl, ho9, hb9⟩; obtain ⟨A10, c10, rfl, hl10, hC10⟩ := Kd.R_reads ho9; have k9 : Below w8.heap.size w8 w9 := (by first | exact hb9 | exact Below.trans (below_drew (Below.refl _ _)) hb9); have s9 := cs4_below (w := w8) s8 k9; have hlz9 : b < w9.heap.size := (by have := k9.size; omega))
                | (go_at_call 17; refine (poll_z g b b n win retry a t A10 _ c10 (msgs a cn) F F' O _ ?side2 hlz9 HG.out ?side3 ?side4 ?side6 ?side7 ?side8 hl10 rfl HOq.out HFq.out).mono ?_; (case side2 => exact S8.out.below k9); (case side3 => exact ⟨by omega, by omega⟩); (case side4 => exact ⟨by omega, by omega⟩); (case side6 => omega); (case side7 => have := HN4.out; omega); (case side8 => exact hC10); rintro e w10 ⟨A11, c11, rfl, hR11, hS11, hG11⟩; have s10 := cs4_grown s9 hG11 HBB.out)
                | (go_at_call 22; refine (tricklelaw45_matches.calls 1001 A11 c11 O A8 c8 N A9 c9 V true _ (Kd.R_reads' hR11).2.2 (Kd.R_reads' hR11).2.1 ?sd1 ?sd2 ?sd3 ?sd4 HM6.out).mono ?_; (case sd1 => exact (Kd.R_reads' (R_mapped (Kd.R_below N8.out k9) hG11 (Nat.lt_succ_self b))).2.2); (case sd2 => exact (Kd.R_reads' N8.out).2.1); (case sd3 => exact (Kd.R_reads' (R_mapped (Kd.R_below V8.out k9) hG11 (Nat.lt_succ_self b))).2.2); (case sd4 => exact (Kd.R_reads' V8.out).2.1); rintro e w11 ⟨rfl, hb11⟩; have s11 := cs4_below s10 hb11))
          have S11 := Aside0.mk (hS11.below hb11)
          have B11 := Aside0.mk (below_step (below_poll (below_step B8.out k9) hG11 hbe3) hb11)
          have M11 := Aside0.mk (blk_below (blk_grown (blk_below M8.out k9) hG11 (fun e => HBM.out (Option.some.inj e))) hb11)
          have P11 := Aside0.mk (Kd.R_below (R_mapped (Kd.R_below P8.out k9) hG11 (Nat.lt_succ_self b)) hb11)
          have Q11 := Aside0.mk (Kd.R_below (R_mapped (Kd.R_below Q8.out k9) hG11 (Nat.lt_succ_self b)) hb11)
          clear hb9 k9 ho9 hl10 hC10 s8 s9 s10 s11 hR11 hS11 hG11 hb11 S8 M8 T8 P8 Q8 N8 V8 B8 HOq HFq HM6
          go_wp2_with fail
          go_roundw
          case rel => exact ⟨k + 1, n + (msgs a cn).length, _, _, _, _, F', first', mx m a, T', S', A6, A7, by omega, by go_num, ⟨by have := HN4.out; omega⟩, ⟨HR7.out.1, first_next HR7.out.2 HR4.out.2.1, HAs.out.2, rfl, rfl⟩, S11, M11, P11, Q11, B11⟩
          case measure => simp [intOf]; omega
        · obtain ⟨w7, hw7⟩ : ∃ w7, w7 = (((((w6.setCell ⟨W.heap.size, 0, none⟩ (.int .i64 win)).setCell ⟨W.heap.size, 1, none⟩ (.int .i64 retry)).setCell ⟨W.heap.size, 2, none⟩ (.int .i64 first')).setCell ⟨W.heap.size, 3, none⟩ (.slice A6 T'.length c6)).setCell ⟨W.heap.size, 4, none⟩ (.slice A7 S'.length c7)) := ⟨_, rfl⟩
          have hz7 : w7.heap[W.heap.size]? = some (.cells #[.int .i64 win, .int .i64 retry, .int .i64 first', .slice A6 T'.length c6, .slice A7 S'.length c7] 36 (0, 0)) := by rw [hw7]; exact blk5_self ZC.out
          have K7 : Below W.heap.size W w7 := by rw [hw7]; exact below5 (below_step k5 k6) (by first | exact k5.size | exact Nat.le_refl _)
          have P7 := Aside0.mk (show (Kd.int .i64).R 2 w7 (b + 1) (fun _ => True) (.slice A6 T'.length c6) T' by rw [hw7]; exact R5 hp6 ZC.out ty2)
          have Q7 := Aside0.mk (show Kd.bool.R 4 w7 (b + 1) (fun _ => True) (.slice A7 S'.length c7) S' by rw [hw7]; exact R5 hq6 ZC.out ty4)
          have N7 := Aside0.mk (show (Kd.int .i64).R 2 w7 (b + 1) (fun _ => True) (.slice A8 N.length c8) N by rw [hw7]; exact R5 hn6 ZC.out ty2)
          have V7 := Aside0.mk (show (Kd.int .i16).R 49 w7 (b + 1) (fun _ => True) (.slice A9 V.length c9) V by rw [hw7]; exact R5 hv6 ZC.out ty49)
          rw [← hw7]
          clear hw7
          have S7 := Aside0.mk (S4.out.below K7)
          have B7 := Aside0.mk (below_step B4.out K7)
          have T7 := Aside0.mk (blk_below T4.out K7)
          have M7 := Aside0.mk (blk_below M4.out K7)
          generalize W.heap.size = nb at *
          have HX7 := Aside0.mk (show bt ≠ bm by exact hbt)
          obtain ⟨O, hO⟩ : ∃ O, pO F a retry t win (msgs a cn) = O := ⟨_, rfl⟩
          obtain ⟨F', hF'⟩ : ∃ F', pF F a retry t win (msgs a cn).length = F' := ⟨_, rfl⟩
          rw [hO] at hm6
          rw [hF'] at hrs6
          have HOq := Aside0.mk hO
          have HFq := Aside0.mk hF'
          have HM6 := Aside0.mk hm6
          have HR7 := Aside0.mk (show RS F' first' win T' S' ∧ (first' = first ∧ a < 0 ∨ first' = a ∧ 0 ≤ a) from ⟨hrs6, hfi6⟩)
          have e0 : w7.cell? ⟨nb, 0, none⟩ = some (.int .i64 win) := (blk_cell hz7 0).trans rfl
          have e1 : w7.cell? ⟨nb, 1, none⟩ = some (.int .i64 retry) := (blk_cell hz7 1).trans rfl
          have e2 : w7.cell? ⟨nb, 2, none⟩ = some (.int .i64 first') := (blk_cell hz7 2).trans rfl
          have e3 : w7.cell? ⟨nb, 3, none⟩ = some (.slice A6 T'.length c6) := (blk_cell hz7 3).trans rfl
          have e4 : w7.cell? ⟨nb, 4, none⟩ = some (.slice A7 S'.length c7) := (blk_cell hz7 4).trans rfl
          have f0 : w7.cell? ⟨bm, 0, none⟩ = some (.int .i64 win) := (blk_cell M7.out 0).trans rfl
          have f1 : w7.cell? ⟨bm, 1, none⟩ = some (.int .i64 retry) := (blk_cell M7.out 1).trans rfl
          have f2 : w7.cell? ⟨bm, 2, none⟩ = some (.int .i64 first) := (blk_cell M7.out 2).trans rfl
          have f3 : w7.cell? ⟨bm, 3, none⟩ = some (.slice A3 p c3) := (blk_cell M7.out 3).trans rfl
          have f4 : w7.cell? ⟨bm, 4, none⟩ = some (.slice A4 q c4) := (blk_cell M7.out 4).trans rfl
          have y0 := blk_frozen M7.out 0
          have y1 := blk_frozen M7.out 1
          have y2 := blk_frozen M7.out 2
          have y3 := blk_frozen M7.out 3
          have y4 := blk_frozen M7.out 4
          rename_i hHx
          clear hHx
          clear hO hF' hm6 hrs6 hfi6 hp6 hq6 hn6 hv6 hb6 k6 k5 hb5 ho5 hC5 hl5 s4 s5 s6 m4 m5 m6 K7 S4 B4 T4 M4 P4 Q4 HZM HZT HZ5 HY5 hlb5 hz7
          try clear z0 z1 z2 z3 z4
          try clear zb
          try clear ZC
          have hu36 := Try.underlying36
          go_wp2_with fail
          clear e0 e1 e2 e3 e4 f0 f1 f2 f3 f4 y0 y1 y2 y3 y4
          obtain ⟨w8, hw8⟩ : ∃ w8, w8 = (((((w7.setCell ⟨bm, 0, none⟩ (.int .i64 win)).setCell ⟨bm, 1, none⟩ (.int .i64 retry)).setCell ⟨bm, 2, none⟩ (.int .i64 first')).setCell ⟨bm, 3, none⟩ (.slice A6 T'.length c6)).setCell ⟨bm, 4, none⟩ (.slice A7 S'.length c7)) := ⟨_, rfl⟩
          have S8 := Aside0.mk (show Snd w8 g b win retry n F by rw [hw8]; exact Snd5 S7.out M7.out)
          have M8 := Aside0.mk (show w8.heap[bm]? = some (.cells #[.int .i64 win, .int .i64 retry, .int .i64 first', .slice A6 T'.length c6, .slice A7 S'.length c7] 36 (0, 0)) by rw [hw8]; exact blk5_self M7.out)
          have T8 := Aside0.mk (show w8.heap[bt]? = some (.cells #[.int .i64 a, .int .u8 cn, .int .i64 t, .bool rs] 43 (0, 0)) by rw [hw8]; exact blk5_other T7.out HX7.out)
          have P8 := Aside0.mk (show (Kd.int .i64).R 2 w8 (b + 1) (fun _ => True) (.slice A6 T'.length c6) T' by rw [hw8]; exact R5 P7.out M7.out ty2)
          have Q8 := Aside0.mk (show Kd.bool.R 4 w8 (b + 1) (fun _ => True) (.slice A7 S'.length c7) S' by rw [hw8]; exact R5 Q7.out M7.out ty4)
          have N8 := Aside0.mk (show (Kd.int .i64).R 2 w8 (b + 1) (fun _ => True) (.slice A8 N.length c8) N by rw [hw8]; exact R5 N7.out M7.out ty2)
          have V8 := Aside0.mk (show (Kd.int .i16).R 49 w8 (b + 1) (fun _ => True) (.slice A9 V.length c9) V by rw [hw8]; exact R5 V7.out M7.out ty49)
          have B8 := Aside0.mk (show Below w.heap.size w w8 by rw [hw8]; exact below5 B7.out hwm)
          rw [← hw8]
          clear hw8 S7 M7 T7 P7 Q7 N7 V7 B7
          have s8 := cs4 (w := w8.drew) T8.out
          have hlb8 : b < w8.heap.size := S8.out.ltb
          have HBM := Aside0.mk (show bm ≠ b by omega)
          have HBB := Aside0.mk (show bt ≠ b by exact hbb)
          go_region_held3 (fun w' => w'.cell? ⟨bt, 0, none⟩ = some (.int .i64 a) ∧ w'.cell? ⟨bt, 1, none⟩ = some (.int .u8 cn) ∧ w'.cell? ⟨bt, 2, none⟩ = some (.int .i64 t) ∧ w'.cell? ⟨bt, 3, none⟩ = some (.bool rs)) (first | (with_reducible exact s8) | (with_reducible exact s9) | (with_reducible exact s10) | (with_reducible exact s11))
              (first
                | (go_at_call 16; refine (tricklelaw45_Call_messages.calls 51 a cn t rs _ _ (msgs_tells a cn t rs hc1 hc2)).mono ?_; rintro e w9 ⟨v10, rfl, ho9, hb9⟩; obtain ⟨A10, c10, rfl, hl10, hC10⟩ := Kd.R_reads ho9; have k9 : Below w8.heap.size w8 w9 := (by first | exact hb9 | exact Below.trans (below_drew (Below.refl _ _)) hb9); have s9 := cs4_below (w := w8) s8 k9; have hlz9 : b < w9.heap.size := (by have := k9.size; omega))
                | (go_at_call 17; refine (poll_z g b b n win retry a t A10 _ c10 (msgs a cn) F F' O _ ?side2 hlz9 HG.out ?side3 ?side4 ?side6 ?side7 ?side8 hl10 rfl HOq.out HFq.out).mono ?_; (case side2 => exact S8.out.below k9); (case side3 => exact ⟨by omega, by omega⟩); (case side4 => exact ⟨by omega, by omega⟩); (case side6 => omega); (case side7 => have := HN4.out; omega); (case side8 => exact hC10); rintro e w10 ⟨A11, c11, rfl, hR11, hS11, hG11⟩; have s10 := cs4_grown s9 hG11 HBB.out)
                | (go_at_call 22; refine (tricklelaw45_matches.calls 1001 A11 c11 O A8 c8 N A9 c9 V true _ (Kd.R_reads' hR11).2.2 (Kd.R_reads' hR11).2.1 ?sd1 ?sd2 ?sd3 ?sd4 HM6.out).mono ?_; (case sd1 => exact (Kd.R_reads' (R_mapped (Kd.R_below N8.out k9) hG11 (Nat.lt_succ_self b))).2.2); (case sd2 => exact (Kd.R_reads' N8.out).2.1); (case sd3 => exact (Kd.R_reads' (R_mapped (Kd.R_below V8.out k9) hG11 (Nat.lt_succ_self b))).2.2); (case sd4 => exact (Kd.R_reads' V8.out).2.1); rintro e w11 ⟨rfl, hb11⟩; have s11 := cs4_below s10 hb11))
          have S11 := Aside0.mk (hS11.below hb11)
          have B11 := Aside0.mk (below_step (below_poll (below_step B8.out k9) hG11 hbe3) hb11)
          have M11 := Aside0.mk (blk_below (blk_grown (blk_below M8.out k9) hG11 (fun e => HBM.out (Option.some.inj e))) hb11)
          have P11 := Aside0.mk (Kd.R_below (R_mapped (Kd.R_below P8.out k9) hG11 (Nat.lt_succ_self b)) hb11)
          have Q11 := Aside0.mk (Kd.R_below (R_mapped (Kd.R_below Q8.out k9) hG11 (Nat.lt_succ_self b)) hb11)
          clear hb9 k9 ho9 hl10 hC10 s8 s9 s10 s11 hR11 hS11 hG11 hb11 S8 M8 T8 P8 Q8 N8 V8 B8 HOq HFq HM6
          go_wp2_with fail
          go_roundw
          case rel => exact ⟨k + 1, n + (msgs a cn).length, _, _, _, _, F', first', mx m a, T', S', A6, A7, by omega, by go_num, ⟨by have := HN4.out; omega⟩, ⟨HR7.out.1, first_next HR7.out.2 HR4.out.2.1, HAs.out.2, rfl, rfl⟩, S11, M11, P11, Q11, B11⟩
          case measure => simp [intOf]; omega
    · go_wp2
      go_ret
      exact ⟨rfl, HB'.out⟩
end Go.Proofs.Ytjblfldgeemciaa.PollLaw
