/-
  SenderExactlyOnce: the plain law: what flies, what is accepted.
-/
import Derived.Test.YtjblfldgeemciaaStp
import Derived.Test.YtjblfldgeemciaaCallPl
set_option linter.unusedVariables false
namespace Go.Proofs.Ytjblfldgeemciaa.Onc
open Go.RowKit Go.Proofs.Ytjblfldgeemciaa.Pr Go.Proofs.Ytjblfldgeemciaa.Sd Go.Proofs.Ytjblfldgeemciaa.CallPl
/-- A frame that carries a message of the list. -/
def FL (l : List Int) (y : S24) : Prop := ∃ n : Nat, n < l.length ∧ y = frm (n : Int) (l.getD n 0)
theorem outs_FL (l : List Int) (a : Nat) (F : Int → Option Int) (retry now : Int) : ∀ k : Nat, k ≤ l.length - a → ∀ y ∈ outs F (a : Int) retry now (l.drop a) k, FL l y
  | 0, _, y, hy => by simp [outs] at hy
  | k + 1, hk, y, hy => by
    unfold outs at hy
    split at hy
    · rcases List.mem_append.1 hy with h | h
      · exact outs_FL l a F retry now k (by omega) y h
      · simp only [List.mem_singleton] at h
        refine ⟨a + k, by omega, ?_⟩
        rw [h]
        have e : (l.drop a).getD k 0 = l.getD (a + k) 0 := by
          rw [List.getD_eq_getElem?_getD, List.getD_eq_getElem?_getD, List.getElem?_drop]
        rw [e]
        simp
    · exact outs_FL l a F retry now k (by omega) y hy
/-- What is got is the list's beginning. -/
def Got (l got : List Int) : Prop := got.length ≤ l.length ∧ got = l.take got.length
theorem Got.nil (l : List Int) : Got l [] := ⟨Nat.zero_le _, rfl⟩
theorem Got.next {l got : List Int} (h : Got l got) (hlt : got.length < l.length) : Got l (got ++ [l.getD got.length 0]) := by
  refine ⟨by rw [List.length_append]; simp; omega, ?_⟩
  rw [List.length_append]
  show _ = l.take (got.length + 1)
  rw [List.take_succ_eq_append_getElem hlt, ← h.2]
  congr 2
  rw [List.getD_eq_getElem?_getD, List.getElem?_eq_getElem hlt]
  rfl
theorem Got.at_ {l got : List Int} (h : Got l got) (k : Nat) (hk : k < got.length) : got.getD k 0 = l.getD k 0 := by
  rw [h.2, List.getD_eq_getElem?_getD, List.getD_eq_getElem?_getD, List.getElem?_take, if_pos hk]
end Go.Proofs.Ytjblfldgeemciaa.Onc
