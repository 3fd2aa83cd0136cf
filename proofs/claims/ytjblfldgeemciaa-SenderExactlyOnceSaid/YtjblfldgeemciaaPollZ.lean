/-
  Poll of the sender at any acknowledged number, whatever the list; the cells of a call that lie in a block.
-/
import Derived.Test.YtjblfldgeemciaaCallPl
set_option linter.unusedVariables false
namespace Go.Proofs.Ytjblfldgeemciaa.PollZ
open Go.RowKit Go.Maps Go.Proofs.YtjblfldgeemciaaW.PrintWords Go.Proofs.YtjblfldgeemciaaW.PrintLast Go.Proofs.Ytjblfldgeemciaa.Pr Go.Proofs.Ytjblfldgeemciaa.Sd Go.Proofs.Ytjblfldgeemciaa.CallPl
theorem asc_at : ∀ (xs : List S43) (m : Int), Asc m xs → ∀ x ∈ xs, x.f0 ≤ 2147483648
  | [], _, _, x, hx => by cases hx
  | y :: ys, m, h, x, hx => by
    rcases List.mem_cons.1 hx with rfl | hx
    · exact h.2.1
    · exact asc_at ys _ h.2.2 x hx
def pO (F : Int → Option Int) (a retry now win : Int) (l : List Int) : List S24 := if a < 0 then [] else outs (cut F a) a retry now l (lim win a l.length)
def pF (F : Int → Option Int) (a retry now win : Int) (m : Nat) : Int → Option Int := if a < 0 then F else aft (cut F a) a retry now (lim win a m)
theorem poll_z (g b bl n : Nat) (win retry a now : Int) (A : Option Addr) (m c : Nat) (l : List Int) (F F' : Int → Option Int) (O : List S24) (w : World) (h : Snd w g b win retry n F) (hbl : bl < w.heap.size) (hg : good win retry) (hn : -1099511627776 ≤ now ∧ now ≤ 1099511627776) (ha : -9223372036854775808 ≤ a ∧ a ≤ 9223372036854775807)
    (hl : l.length ≤ 1000000) (hnn : n ≤ 1000000000) (hr : Kd.C (Kd.int .i16) w A l.length l) (hc : l.length ≤ c) (hm : m = l.length) (hO : pO F a retry now win l = O) (hF : pF F a retry now win l.length = F') :
    Calls Try.prog 17 #[.pointer (some ⟨g, 0, none⟩), .int .i64 a, .slice A m c, .int .i64 now] w fun e w' => ∃ A c, e = .returned (.slice A O.length c) ∧ FR w' bl (.slice A O.length c) O ∧ Snd w' g b win retry (n + l.length) F' ∧ w.grownBy w' (some b) := by
  subst hm hO hF
  unfold pO pF
  by_cases h0 : a < 0
  · rw [if_pos h0, if_pos h0]
    refine (poll_neg _ a now A l.length c w h0).mono ?_
    rintro e w' ⟨rfl, hw⟩
    subst hw
    exact ⟨none, 0, rfl, Kd.R_nil _ _ _ _ _, (h.alloc _).mono (Nat.le_add_right _ _), World.grownBy_alloc w _ _⟩
  · rw [if_neg h0, if_neg h0]
    refine (poll_any g b n win retry a now A c l F w h hg hn (by omega) ha.2 hl hnn hr hc).mono ?_
    rintro e w' ⟨v, rfl, hR, hS, hG⟩
    obtain ⟨A', c', rfl, _, _⟩ := Kd.R_reads hR
    exact ⟨A', c', rfl, Kd.R_lower hR hbl, hS, hG⟩
theorem Snd.drew {w : World} {g b n : Nat} {win retry : Int} {F : Int → Option Int} (h : Snd w g b win retry n F) : Snd w.drew g b win retry n F := h.below (below_drew (Below.refl _ _))
section
variable {w w1 : World} {bt : Nat} {a cn t : Int} {rs : Bool}
theorem cs4 (h : w.heap[bt]? = some (.cells #[.int .i64 a, .int .u8 cn, .int .i64 t, .bool rs] 43 (0, 0))) : w.cell? ⟨bt, 0, none⟩ = some (.int .i64 a) ∧ w.cell? ⟨bt, 1, none⟩ = some (.int .u8 cn) ∧ w.cell? ⟨bt, 2, none⟩ = some (.int .i64 t) ∧ w.cell? ⟨bt, 3, none⟩ = some (.bool rs) :=
  ⟨(blk_cell h 0).trans rfl, (blk_cell h 1).trans rfl, (blk_cell h 2).trans rfl, (blk_cell h 3).trans rfl⟩
theorem cs4_below (h : w.cell? ⟨bt, 0, none⟩ = some (.int .i64 a) ∧ w.cell? ⟨bt, 1, none⟩ = some (.int .u8 cn) ∧ w.cell? ⟨bt, 2, none⟩ = some (.int .i64 t) ∧ w.cell? ⟨bt, 3, none⟩ = some (.bool rs)) (hb : Below w.heap.size w w1) :
    w1.cell? ⟨bt, 0, none⟩ = some (.int .i64 a) ∧ w1.cell? ⟨bt, 1, none⟩ = some (.int .u8 cn) ∧ w1.cell? ⟨bt, 2, none⟩ = some (.int .i64 t) ∧ w1.cell? ⟨bt, 3, none⟩ = some (.bool rs) :=
  ⟨pw_cell_below hb h.1, pw_cell_below hb h.2.1, pw_cell_below hb h.2.2.1, pw_cell_below hb h.2.2.2⟩
theorem cs4_grown {b : Nat} (h : w.cell? ⟨bt, 0, none⟩ = some (.int .i64 a) ∧ w.cell? ⟨bt, 1, none⟩ = some (.int .u8 cn) ∧ w.cell? ⟨bt, 2, none⟩ = some (.int .i64 t) ∧ w.cell? ⟨bt, 3, none⟩ = some (.bool rs)) (hg : w.grownBy w1 (some b)) (hne : bt ≠ b) :
    w1.cell? ⟨bt, 0, none⟩ = some (.int .i64 a) ∧ w1.cell? ⟨bt, 1, none⟩ = some (.int .u8 cn) ∧ w1.cell? ⟨bt, 2, none⟩ = some (.int .i64 t) ∧ w1.cell? ⟨bt, 3, none⟩ = some (.bool rs) :=
  ⟨hg.cell h.1 (fun e => hne (Option.some.inj e)), hg.cell h.2.1 (fun e => hne (Option.some.inj e)), hg.cell h.2.2.1 (fun e => hne (Option.some.inj e)), hg.cell h.2.2.2 (fun e => hne (Option.some.inj e))⟩
end
end Go.Proofs.Ytjblfldgeemciaa.PollZ
