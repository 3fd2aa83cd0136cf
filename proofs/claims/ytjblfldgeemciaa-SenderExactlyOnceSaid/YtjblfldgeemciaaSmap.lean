/-
  The map of a sender: what it holds as a function of the message's number; a put, a cut of what lies below a number, a clear. It holds for every map.
-/
import Derived.Maps.OwnSet
import Derived.Lib.SlMapFilter
import Derived.MapFrom
namespace Go.Proofs.Ytjblfldgeemciaa.Sd
open Go.Maps
/-- What is found. -/
def fnd (z : DataW Unit) : Option Int → DataW Unit
  | some t => .lit (.int .i64 t)
  | none => z
/-- The datum D holds what F says. -/
def Rd (D : DataW Unit) (F : Int → Option Int) : Prop :=
  IsMap D ∧ ∀ (n : Int) (z : DataW Unit), D.atKey (.int .i64 n) z = fnd z (F n)
theorem Rd_empty : Rd (.map []) (fun _ => none) := ⟨⟨[], rfl⟩, fun _ _ => rfl⟩
theorem Rd_has {D : DataW Unit} {F : Int → Option Int} (h : Rd D F) (n : Int) : has D (.int .i64 n) = (F n).isSome := by
  have h2 := h.2 n
  cases hF : F n with
  | none =>
    rw [hF] at h2
    exact has_false_of_atKey h2
  | some t =>
    rw [hF] at h2
    exact has_true_of_atKey h2
theorem key_lit (n : Int) : WideAt.IsKeyLit (.int .i64 n) := trivial
theorem Rd_put {D : DataW Unit} {F : Int → Option Int} (h : Rd D F) (n t : Int) : Rd (D.put (.int .i64 n) (.lit (.int .i64 t))) (fun m => if m = n then some t else F m) := by
  refine ⟨h.1.put _ _, fun m z => ?_⟩
  by_cases e : m = n
  · subst e
    rw [atKey_put_same h.1 (key_lit m)]
    show _ = fnd z (if m = m then some t else F m)
    rw [if_pos rfl]
    rfl
  · rw [atKey_put_other (fun he => e (by injection he))]
    show _ = fnd z (if m = n then some t else F m)
    rw [if_neg e]
    exact h.2 m z
/-- Which keys go. -/
def pdLess (a : Int) (l : Lit) (_ : DataW Unit) : Bool :=
  match l with
  | .int _ n => decide (n < a)
  | _ => false
theorem Rd_cut {D : DataW Unit} {F : Int → Option Int} (h : Rd D F) (a : Int) : Rd (Lib.deleteFuncD (pdLess a) D) (fun m => if m < a then none else F m) := by
  obtain ⟨⟨es, rfl⟩, h2⟩ := h
  refine ⟨⟨_, rfl⟩, fun m z => ?_⟩
  have hk : ∀ p : Lit × DataW Unit, p.1.sameKey (.int .i64 m) = true → pdLess a p.1 p.2 = decide (m < a) := fun p hp => by
    rw [WideAt.sameKey_eq hp]
    rfl
  have e0 : (Lib.deleteFuncD (pdLess a) (.map es)).atKey (.int .i64 m) z = match (es.filter fun p => !pdLess a p.1 p.2).find? (fun p => p.1.sameKey (.int .i64 m)) with
      | some p => p.2
      | none => z := by
    simp only [Lib.deleteFuncD, DataW.atKey]
    generalize List.find? _ _ = o
    cases o <;> rfl
  rw [e0]
  have h3 : (match es.find? (fun p => p.1.sameKey (.int .i64 m)) with
      | some p => p.2
      | none => z) = fnd z (F m) := by
    rw [← h2 m z]
    simp only [DataW.atKey]
    generalize List.find? _ _ = o
    cases o <;> rfl
  show _ = fnd z (if m < a then none else F m)
  by_cases hm : m < a
  · rw [if_pos hm]
    have : (es.filter fun p => !pdLess a p.1 p.2).find? (fun p => p.1.sameKey (.int .i64 m)) = none := by
      rw [List.find?_eq_none]
      intro p hp hs
      have h1 := (List.mem_filter.1 hp).2
      rw [hk p hs] at h1
      simp [hm] at h1
    rw [this]
    rfl
  · rw [if_neg hm, find_filter_keep (fun p hp => by rw [hk p hp]; simp [hm])]
    exact h3
/-- clear(m). -/
theorem clear_run {P : Program} {k e t : TypeId} {R : Value → Option (DataW Unit × List MemPlace)} {w : World} {b n : Nat} {D : DataW Unit} (h : w.ownsMap P k R b n D) (ht : P.underlying t = some (.map k e)) (ty : TypeId) :
    ∃ w', (Builtin.clear_ #[t] ty #[.map (some b)]).run P w = .ok (.tuple #[]) w' ∧ w'.ownsMap P k R b 0 (.map []) ∧ w.mapTurned w' b := by
  obtain ⟨es, clock, hb, F, hs, rfl⟩ := h
  refine ⟨ChangeMaps.setBlock w b (.map #[] clock), ?_, ⟨#[], clock, ChangeMaps.heap_setBlock_same hb _, ⟨by simp, MapKept.stamped_empty _, by simp⟩, Nat.le_refl _, rfl⟩, ⟨es, clock, _, _, hb, rfl⟩⟩
  simp [Builtin.clear_, run_underlying ht, MapKept.run_getObj_map hb, MapKept.run_setObj_map _ hb, Result.andThen]
  rfl
end Go.Proofs.Ytjblfldgeemciaa.Sd
