/-
  What the lists of calls tell: their order, their messages, the value of a frame. Plain laws, whatever the calls.
-/
import Derived.Test.YtjblfldgeemciaaOpen
set_option linter.unusedVariables false
namespace Go.Proofs.Ytjblfldgeemciaa.CallPl
open Go.RowKit Go.Proofs.YtjblfldgeemciaaW.PrintWords Go.Proofs.YtjblfldgeemciaaW.PrintLast Go.Proofs.Ytjblfldgeemciaa.Pr Go.Proofs.Ytjblfldgeemciaa.Sd
theorem w64 (n : Int) (h1 : -9223372036854775808 ≤ n) (h2 : n ≤ 9223372036854775807) : wrap64 n = n := by
  unfold wrap64
  omega
/-! ### messages -/
def msg (a : Int) (i : Nat) : Int := IntKind.i16.wrap (wrap64 (a + i))
def msgs (a c : Int) : List Int := (List.range (c % 50).toNat).map (msg a)
theorem msgs_length (a c : Int) : (msgs a c).length = (c % 50).toNat := by simp [msgs]
theorem msgs_at (a c : Int) (i : Nat) (h : i < (msgs a c).length) : (msgs a c).getD i 0 = msg a i := by
  rw [msgs_length] at h
  rw [List.getD_eq_getElem?_getD]
  simp [msgs, h]
theorem msgs_loop (d : Nat) : ∀ (k i n : Nat) (out : List Int) (a x1 x2 : Int) (b : Bool), n ≤ 50 → i + d = n → d < k → out = (List.range i).map (msg a) →
    tricklelaw45_Call_messages.l0 k out n i a x1 x2 b = some ((List.range n).map (msg a)) := by
  induction d with
  | zero =>
    intro k i n out a x1 x2 b hn hi hk ho
    obtain ⟨k, rfl⟩ : ∃ m, k = m + 1 := ⟨k - 1, by omega⟩
    simp only [tricklelaw45_Call_messages.l0]
    rw [if_neg (by omega), ho, show i = n by omega]
  | succ d ih =>
    intro k i n out a x1 x2 b hn hi hk ho
    obtain ⟨k, rfl⟩ : ∃ m, k = m + 1 := ⟨k - 1, by omega⟩
    simp only [tricklelaw45_Call_messages.l0]
    have hl : out.length = i := by rw [ho]; simp
    rw [if_pos (by omega), if_pos (by omega), w64 ((i : Int) + 1) (by omega) (by omega)]
    exact ih k (i + 1) n _ a x1 x2 b hn (by omega) (by omega) (by rw [List.range_succ, List.map_append, ← ho]; rfl)
theorem msgs_tells (a c x2 : Int) (b : Bool) (h0 : 0 ≤ c) (h1 : c ≤ 255) : tricklelaw45_Call_messages.f 51 a c x2 b = some (msgs a c) := by
  unfold tricklelaw45_Call_messages.f msgs
  rw [w64 c (by omega) (by omega), Int.tmod_eq_emod_of_nonneg h0]
  have := msgs_loop (c % 50).toNat 51 0 (c % 50).toNat [] a c x2 b (by omega) (by omega) (by omega) rfl
  rw [Int.toNat_of_nonneg (by omega)] at this
  exact this
/-! ### ordered -/
/-- The acknowledged numbers do not decrease, from a number on. -/
def Asc : Int → List S43 → Prop
  | _, [] => True
  | m, x :: xs => (0 ≤ x.f0 → m ≤ x.f0) ∧ x.f0 ≤ 2147483648 ∧ Asc (mx m x.f0) xs
theorem ordered_loop (d : Nat) : ∀ (k i : Nat) (xs : List S43) (m : Int), xs.length ≤ 9223372036854775807 → i + d = xs.length → d < k →
    ∃ b, tricklelaw45_ordered.l0 k xs m xs (xs.length : Int) i = some b ∧ (b = true → xs.length ≤ 60 ∧ Asc m (xs.drop i)) := by
  induction d with
  | zero =>
    intro k i xs m hn hi hk
    obtain ⟨k, rfl⟩ : ∃ m, k = m + 1 := ⟨k - 1, by omega⟩
    simp only [tricklelaw45_ordered.l0]
    rw [if_neg (by omega)]
    refine ⟨_, rfl, fun h => ⟨by have := of_decide_eq_true h; omega, ?_⟩⟩
    rw [List.drop_eq_nil_of_le (by omega)]
    trivial
  | succ d ih =>
    intro k i xs m hn hi hk
    obtain ⟨k, rfl⟩ : ∃ m, k = m + 1 := ⟨k - 1, by omega⟩
    simp only [tricklelaw45_ordered.l0]
    have hlt : i < xs.length := by omega
    rw [if_pos (by omega), if_pos (by omega), if_pos (by omega), w64 ((i : Int) + 1) (by omega) (by omega)]
    have hx : rd_T43 xs (i : Int) = xs[i] := by
      unfold rd_T43
      rw [List.getD_eq_getElem?_getD, Int.toNat_natCast, List.getElem?_eq_getElem hlt]
      rfl
    rw [hx]
    have hdrop : xs.drop i = xs[i] :: xs.drop (i + 1) := List.drop_eq_getElem_cons hlt
    obtain ⟨b, hb, hA⟩ := ih k (i + 1) xs (mx m xs[i].f0) hn (by omega) (by omega)
    have hc : ((i + 1 : Nat) : Int) = (i : Int) + 1 := by omega
    rw [hc] at hb
    by_cases h1 : xs[i].f0 ≥ 0
    · rw [if_pos h1]
      by_cases h2 : xs[i].f0 < m
      · rw [if_pos h2]
        exact ⟨false, rfl, fun h => by cases h⟩
      · rw [if_neg h2]
        by_cases h3 : xs[i].f0 > 2147483648
        · rw [if_pos h3]
          exact ⟨false, rfl, fun h => by cases h⟩
        · rw [if_neg h3]
          refine ⟨b, hb, fun h => ?_⟩
          obtain ⟨h5, h6⟩ := hA h
          refine ⟨h5, ?_⟩
          rw [hdrop]
          exact ⟨fun _ => by omega, by omega, h6⟩
    · rw [if_neg h1]
      by_cases h3 : xs[i].f0 > 2147483648
      · rw [if_pos h3]
        exact ⟨false, rfl, fun h => by cases h⟩
      · rw [if_neg h3]
        refine ⟨b, hb, fun h => ?_⟩
        obtain ⟨h5, h6⟩ := hA h
        refine ⟨h5, ?_⟩
        rw [hdrop]
        exact ⟨fun h => by omega, by omega, h6⟩
theorem ordered_tells (xs : List S43) (h : xs.length ≤ 9223372036854775807) : ∃ b, tricklelaw45_ordered.f (xs.length + 1) xs = some b ∧ (b = true → xs.length ≤ 60 ∧ Asc (-10) xs) := by
  have := ordered_loop xs.length (xs.length + 1) 0 xs (-10) h (by omega) (by omega)
  exact this
/-! ### the value of a frame -/
theorem value_frm (n v : Int) (h : -32768 ≤ v ∧ v ≤ 32767) : trickleref43_Value.f (frm n v).f0 (frm n v).f1 (frm n v).f2 = some (v, true) := by
  unfold trickleref43_Value.f frm
  simp only [List.length_cons, List.length_nil]
  rw [if_pos trivial, if_pos (by decide), if_pos (by decide), if_pos (by decide)]
  have e0 : rd [IntKind.u16.wrap v % 256, IntKind.u16.wrap v / 256 % 256] 0 = IntKind.u16.wrap v % 256 := rfl
  have e1 : rd [IntKind.u16.wrap v % 256, IntKind.u16.wrap v / 256 % 256] 1 = IntKind.u16.wrap v / 256 % 256 := rfl
  rw [e0, e1]
  have : IntKind.i16.wrap (IntKind.u16.wrap (IntKind.u16.wrap (IntKind.u16.wrap v % 256) + IntKind.u16.wrap (256 * IntKind.u16.wrap (IntKind.u16.wrap v / 256 % 256)))) = v := by
    unfold IntKind.wrap
    simp [IntKind.bits, IntKind.signed]
    omega
  rw [this]
theorem msg_range (a : Int) (i : Nat) : -32768 ≤ msg a i ∧ msg a i ≤ 32767 := by
  unfold msg
  generalize wrap64 (a + i) = x
  unfold IntKind.wrap
  simp [IntKind.bits, IntKind.signed]
  omega
end Go.Proofs.Ytjblfldgeemciaa.CallPl
