/-
  The contracts of New, due, Receive, Restart and Last of the sender, over every state.
-/
import Derived.Test.YtjblfldgeemciaaDel
namespace Go.Proofs.Ytjblfldgeemciaa.Sd
open Go.RowKit Go.Maps Go.Proofs.YtjblfldgeemciaaW.PrintWords Go.Proofs.YtjblfldgeemciaaW.PrintLast
/-- A sender: its struct is block g, its map block b. -/
structure Snd (w : World) (g b : Nat) (win retry : Int) (n : Nat) (F : Int → Option Int) : Prop where
  blk : w.heap[g]? = some (.cells #[.int .i64 win, .int .i64 retry, .map (some b)] 64 (0, 0))
  map : ∃ D, w.ownsMap Try.prog 2 (plainElem Try.prog 2) b n D ∧ Rd D F
theorem Snd.lt {w : World} {g b n : Nat} {win retry : Int} {F : Int → Option Int} (h : Snd w g b win retry n F) : g < w.heap.size := blk_lt h.blk
theorem Snd.ltb {w : World} {g b n : Nat} {win retry : Int} {F : Int → Option Int} (h : Snd w g b win retry n F) : b < w.heap.size := by
  obtain ⟨D, hD, _⟩ := h.map
  exact hD.lt
theorem Snd.ne {w : World} {g b n : Nat} {win retry : Int} {F : Int → Option Int} (h : Snd w g b win retry n F) : g ≠ b := by
  rintro rfl
  obtain ⟨D, ⟨es, c, hb, _⟩, _⟩ := h.map
  have := h.blk
  rw [hb] at this
  cases this
/-- Another block than the sender's two has turned. -/
theorem Snd.grown {w w' : World} {g b n : Nat} {win retry : Int} {F : Int → Option Int} {row : Option Nat} (h : Snd w g b win retry n F) (hg : w.grownBy w' row) (h1 : some g ≠ row) (h2 : some b ≠ row) : Snd w' g b win retry n F := by
  refine ⟨blk_grown h.blk hg h1, ?_⟩
  obtain ⟨D, hD, hR⟩ := h.map
  exact ⟨D, hD.kept hg h2, hR⟩
theorem Snd.below {w w' : World} {g b n : Nat} {win retry : Int} {F : Int → Option Int} (h : Snd w g b win retry n F) (hb : Below w.heap.size w w') : Snd w' g b win retry n F := h.grown (grown_of_below hb none) (by simp) (by simp)
theorem Snd.alloc {w : World} {g b n : Nat} {win retry : Int} {F : Int → Option Int} (h : Snd w g b win retry n F) (o : Obj) : Snd (w.alloc o) g b win retry n F := h.below (below_alloc (Below.refl _ _) o)
theorem Snd.cell0 {w : World} {g b n : Nat} {win retry : Int} {F : Int → Option Int} (h : Snd w g b win retry n F) : w.cell? ⟨g, 0, none⟩ = some (.int .i64 win) := (blk_cell h.blk 0).trans rfl
theorem Snd.cell1 {w : World} {g b n : Nat} {win retry : Int} {F : Int → Option Int} (h : Snd w g b win retry n F) : w.cell? ⟨g, 1, none⟩ = some (.int .i64 retry) := (blk_cell h.blk 1).trans rfl
theorem Snd.cell2 {w : World} {g b n : Nat} {win retry : Int} {F : Int → Option Int} (h : Snd w g b win retry n F) : w.cell? ⟨g, 2, none⟩ = some (.map (some b)) := (blk_cell h.blk 2).trans rfl
/-- The writing of another row (of cells of type t). -/
theorem Snd.row_ne {w : World} {g b n : Nat} {win retry : Int} {F : Int → Option Int} (h : Snd w g b win retry n F) {v : Value} {e : TypeId} (ht : e ≠ 64) (hty : ∀ k, v.ownBlock = some k → ∃ cells, w.heap[k]? = some (.cells cells e (0, 0))) : some g ≠ v.ownBlock ∧ some b ≠ v.ownBlock := by
  refine ⟨fun he => ?_, fun he => ?_⟩
  · obtain ⟨cs, hc⟩ := hty g he.symm
    rw [h.blk] at hc
    injection hc with hc
    injection hc with _ hc
    exact ht hc.symm
  · obtain ⟨cs, hc⟩ := hty b he.symm
    obtain ⟨D, ⟨es, c, hb, _⟩, _⟩ := h.map
    rw [hb] at hc
    cases hc
/-! ### Last -/
theorem last_any (w : World) : Calls Try.prog 24 #[] w fun e w' => e = .returned (.int .i64 2147483647) ∧ w' = w := by
  go_enter Try.func24, Try.ntmps24
  go_wp2
  go_ret
  exact ⟨rfl, rfl⟩
/-! ### New -/
def good (win retry : Int) : Prop := 1 ≤ win ∧ win ≤ 32 ∧ 1 ≤ retry ∧ retry ≤ 1099511627776
def NewPost (win retry : Int) (w : World) (e : Ending) (w' : World) : Prop := ∃ g b : Nat, e = .returned (.tuple #[.pointer (some ⟨g, 0, none⟩), .int .i64 0]) ∧ Snd w' g b win retry 0 (fun _ => none) ∧ w.heap.size ≤ g ∧ w.heap.size ≤ b ∧ Below w.heap.size w w'
theorem new_good (win retry : Int) (w : World) (h : good win retry) :
    Calls Try.prog 10 #[.int .i64 win, .int .i64 retry] w (NewPost win retry w) := by
  obtain ⟨h1, h2, h3, h4⟩ := h
  have c1 : ¬ win < 1 := by omega
  have c2 : ¬ win > 32 := by omega
  have c3 : ¬ retry < 1 := by omega
  have c4 : ¬ retry > 1099511627776 := by omega
  have hmm := @run_makeMap Try.prog
  go_enter Try.func10, Try.ntmps10
  go_wp2
  go_ret2
  refine ⟨w.heap.size + 1, w.heap.size, rfl, ⟨?_, ?_⟩, by omega, by omega, below_alloc (below_alloc (Below.refl _ _) _) _⟩
  · simpa using blk_new (w.alloc (.map #[] 0)) (.cells #[.int .i64 win, .int .i64 retry, .map (some w.heap.size)] 64)
  · exact ⟨_, (World.ownsMap_made w Try.prog 2 (plainElem Try.prog 2)).alloc _, Rd_empty⟩
theorem new_bad (win retry : Int) (w : World) (h : ¬ good win retry) :
    Calls Try.prog 10 #[.int .i64 win, .int .i64 retry] w fun e w' => e = .returned (.tuple #[.pointer none, .int .i64 1]) ∧ w' = w := by
  unfold good at h
  by_cases c1 : win < 1
  · go_enter Try.func10, Try.ntmps10
    go_wp2
    go_ret2
    exact ⟨rfl, rfl⟩
  · by_cases c2 : win > 32
    · go_enter Try.func10, Try.ntmps10
      go_wp2
      go_ret2
      exact ⟨rfl, rfl⟩
    · by_cases c3 : retry < 1
      · go_enter Try.func10, Try.ntmps10
        go_wp2
        go_ret2
        exact ⟨rfl, rfl⟩
      · have c4 : retry > 1099511627776 := by omega
        clear h
        go_enter Try.func10, Try.ntmps10
        go_wp2
        go_ret2
        exact ⟨rfl, rfl⟩
/-! ### due -/
theorem wf64 (k : Int) (h1 : -9223372036854775808 ≤ k) (h2 : k ≤ 9223372036854775807) : (Lit.int .i64 k).wf = true := by
  have e1 : IntKind.i64.min = -9223372036854775808 := by decide
  have e2 : IntKind.i64.max = 9223372036854775807 := by decide
  simp only [Lit.wf, e1, e2, Bool.and_eq_true, decide_eq_true_eq]
  exact ⟨h1, h2⟩
def due (F : Int → Option Int) (retry n now : Int) : Bool :=
  match F n with
  | some t => decide (t ≤ now - retry)
  | none => true
set_option maxHeartbeats 1000000 in
theorem due_any (g b n : Nat) (win retry k now : Int) (F : Int → Option Int) (w : World) (h : Snd w g b win retry n F) (hr : 1 ≤ retry ∧ retry ≤ 1099511627776) (hn : -1099511627776 ≤ now ∧ now ≤ 1099511627776) (hk : -9223372036854775808 ≤ k ∧ k ≤ 9223372036854775807) :
    Calls Try.prog 27 #[.pointer (some ⟨g, 0, none⟩), .int .i64 k, .int .i64 now] w fun e w' => e = .returned (.bool (due F retry k now)) ∧ w' = w := by
  obtain ⟨D, hown, hR⟩ := h.map
  have hwk : (Lit.int .i64 k).wf = true := wf64 k hk.1 hk.2
  have hkey := keyOf_int_mk Try.underlying2 hwk
  have c1 := h.cell1
  have c2 := h.cell2
  have e1 : wrap64 (-9223372036854775808 + retry) = -9223372036854775808 + retry := by unfold wrap64; omega
  have e2 : wrap64 (now - retry) = now - retry := by unfold wrap64; omega
  have e3 : now ≥ -9223372036854775808 + retry := by omega
  clear h
  go_enter Try.func27, Try.ntmps27
  go_wp2_with (first
    | (at_lookup; refine wpList_lookup_own_ok_int _ rfl _ _ 62 rfl 2 2 .i64 law2 Try.underlying62 Try.underlying2 (zero2 _) b n D rfl hown _ _ rfl hkey ?_; intro c hat hwc)
    | go_in)
  · rename_i hh
    go_ret
    refine ⟨?_, rfl⟩
    rw [Rd_has hR] at hh
    obtain ⟨t, ht⟩ := Option.isSome_iff_exists.1 hh
    have h2 := hR.2 k (.lit (.int .i64 0))
    rw [hat, ht] at h2
    have h3 : c = t := by injection h2 with h2; injection h2
    subst h3
    simp [due, ht]
  · rename_i hh
    go_ret
    refine ⟨?_, rfl⟩
    rw [Rd_has hR] at hh
    have ht : F k = none := by simpa using hh
    simp [due, ht]
/-! ### Restart -/
def RestPost (g b : Nat) (win retry : Int) (w : World) (e : Ending) (w' : World) : Prop := e = .returned (.tuple #[]) ∧ Snd w' g b win retry 0 (fun _ => none) ∧ w.grownBy w' (some b)
theorem restart_any (g b n : Nat) (win retry : Int) (F : Int → Option Int) (w : World) (h : Snd w g b win retry n F) :
    Calls Try.prog 20 #[.pointer (some ⟨g, 0, none⟩)] w (RestPost g b win retry w) := by
  obtain ⟨D, hown, hR⟩ := h.map
  have c2 := h.cell2
  obtain ⟨w1, hrun, hown1, hturn⟩ := clear_run hown Try.underlying62 0
  have HS := Aside0.mk h
  have HO := Aside0.mk hown1
  have HT := Aside0.mk hturn
  clear h hown hR hown1 hturn
  go_enter Try.func20, Try.ntmps20
  go_wp2
  go_end0
  refine ⟨rfl, ⟨blk_grown HS.out.blk HT.out.grown (fun e => HS.out.ne (Option.some.inj e)), ⟨_, HO.out, Rd_empty⟩⟩, HT.out.grown⟩
/-! ### Receive -/
def rcv (k s : Int) (m : Nat) (a e : Int) : Int × Bool := if k = 2 ∧ m = 0 ∧ a < s ∧ s ≤ e then (s, true) else (a, false)
set_option maxHeartbeats 1000000 in
theorem receive_any (p : Value) (k s : Int) (A : Option Addr) (m c : Nat) (a e : Int) (w : World) :
    Calls Try.prog 12 #[p, .agg #[.int .i64 k, .int .i64 s, .slice A m c], .int .i64 a, .int .i64 e] w fun e' w' => e' = .returned (.tuple #[.int .i64 (rcv k s m a e).1, .bool (rcv k s m a e).2]) ∧ w' = w.alloc (.cells #[.int .i64 k, .int .i64 s, .slice A m c] 24) := by
  unfold rcv
  by_cases h1 : k = 2
  · by_cases h2 : m = 0
    · by_cases h3 : s ≤ a
      · have hp : ¬ (k = 2 ∧ m = 0 ∧ a < s ∧ s ≤ e) := by omega
        rw [if_neg hp]
        subst h1 h2
        clear hp
        go_enter Try.func12, Try.ntmps12
        go_wp2
        go_ret2
        exact ⟨rfl, rfl⟩
      · by_cases h4 : s > e
        · have hp : ¬ (k = 2 ∧ m = 0 ∧ a < s ∧ s ≤ e) := by omega
          rw [if_neg hp]
          subst h1 h2
          clear hp
          go_enter Try.func12, Try.ntmps12
          go_wp2
          go_ret2
          exact ⟨rfl, rfl⟩
        · have hp : k = 2 ∧ m = 0 ∧ a < s ∧ s ≤ e := by omega
          rw [if_pos hp]
          subst h1 h2
          clear hp
          go_enter Try.func12, Try.ntmps12
          go_wp2
          go_ret2
          exact ⟨rfl, rfl⟩
    · have hp : ¬ (k = 2 ∧ m = 0 ∧ a < s ∧ s ≤ e) := by omega
      rw [if_neg hp]
      subst h1
      have h5 : (m : Int) > 0 := by omega
      clear hp
      go_enter Try.func12, Try.ntmps12
      go_wp2
      go_ret2
      exact ⟨rfl, rfl⟩
  · have hp : ¬ (k = 2 ∧ m = 0 ∧ a < s ∧ s ≤ e) := by omega
    rw [if_neg hp]
    have h1' : (k != 2) = true := by simpa using h1
    clear hp
    go_enter Try.func12, Try.ntmps12
    go_wp2
    go_ret2
    exact ⟨rfl, rfl⟩
end Go.Proofs.Ytjblfldgeemciaa.Sd
