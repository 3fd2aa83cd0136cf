/-
  Arguments opened: a slice of structs of whole numbers, as the list that the walks read.
-/
import Derived.Test.YtnlpckkaddpieaaWMore
import Derived.Test.YtnlpckkaddpieaaPr0
import Derived.Lib.SmallJoins
import Derived.ProofKit
import Derived.OpenShut
import Derived.Deep.Slices
namespace Go.Proofs.Ytnlpckkaddpieaa.Open
open Go.RowKit Go.ChangeShapes Go.WideShapes Go.ChangeAt Go.Proofs.YtnlpckkaddpieaaW.PrintWords
variable {H : Type} {enc : TypeId × Value → H} {P : Program} {w : World} {base : Nat} {spare : Nat → Bool} {held : Bool}
theorem int_leaf {fuel : Nat} {t : TypeId} {k : IntKind} {v : Value} {y : DataW H × List MemPlace} (hu : P.underlying t = some (.int k)) (h : DataW.trod enc P w base spare held fuel t [v] = some y) : ∃ n, v = .int k n ∧ (Lit.int k n).wf = true := by
  cases fuel with
  | zero => simp [DataW.trod] at h
  | succ f =>
    cases v <;> simp [DataW.trod, hu] at h
    rename_i k' n
    obtain ⟨⟨rfl, h⟩, _⟩ := h
    exact ⟨n, rfl, h⟩
theorem bool_leaf {fuel : Nat} {t : TypeId} {v : Value} {y : DataW H × List MemPlace} (hu : P.underlying t = some .bool) (h : DataW.trod enc P w base spare held fuel t [v] = some y) : ∃ b, v = .bool b := by
  cases fuel with
  | zero => simp [DataW.trod] at h
  | succ f =>
    cases v <;> simp [DataW.trod, hu] at h
    rename_i b
    exact ⟨b, rfl⟩
/-- A slice of elements that each read as an x: the list of these. -/
theorem rows_cs {α : Type} (d : Kd α) (good : α → Prop) {T e : TypeId} {cs : List Value} {y : DataW H × List MemPlace} {fuel : Nat} (hT : P.underlying T = some (.slice e)) (hC : P.cellsOf e = d.sz)
    (leaf : ∀ (fuel : Nat) (cs : List Value) (y : DataW H × List MemPlace), cs.length = d.sz → DataW.trod enc P w base spare held fuel e cs = some y → ∃ x, d.K w x cs ∧ good x)
    (hf : DataW.trod enc P w base spare held fuel T cs = some y) : ∃ (a : Option Addr) (cap : Nat) (xs : List α), cs = [.slice a xs.length cap] ∧ xs.length ≤ cap ∧ d.C w a xs.length xs ∧ ∀ x ∈ xs, good x := by
  rcases Deep.open_slice hT hf with ⟨hcs, _⟩ | ⟨a', len, cap, m, n, D, Pl, hcs, _, hl, hm, hmm, _, hel⟩
  · subst hcs
    exact ⟨none, 0, [], rfl, Nat.le_refl _, Kd.C_nil d w, fun x hx => by simp at hx⟩
  · subst hcs
    have hlm : len ≤ m := by rw [hmm]; split <;> omega
    have hx : ∀ i, i < len → ∃ x cs', d.K w x cs' ∧ good x ∧ cs'.length = d.sz ∧ ∀ j, j < d.sz → w.cell? ((a'.add (i * d.sz)).add j) = cs'[j]? := by
      intro i hi
      obtain ⟨cs', h1, h2⟩ := hel i (by omega)
      rw [hC] at h1
      obtain ⟨_, h3, h4⟩ := World.cells?_some h1
      obtain ⟨x, hk, hg⟩ := leaf n cs' _ h3 h2
      exact ⟨x, cs', hk, hg, h3, h4⟩
    have hne : ∀ i : Fin len, ∃ x, ∃ cs', d.K w x cs' ∧ good x ∧ cs'.length = d.sz ∧ ∀ j, j < d.sz → w.cell? ((a'.add (i.1 * d.sz)).add j) = cs'[j]? := fun i => hx i.1 i.2
    obtain ⟨f, hf2⟩ := Classical.skolem.1 hne
    have hlen : ((List.finRange len).map f).length = len := by simp
    refine ⟨some a', cap, (List.finRange len).map f, by rw [hlen], by rw [hlen]; exact hl, ⟨rfl, ?_, fun _ => ⟨a', rfl, fun j x hj => ?_⟩⟩, fun x hx => ?_⟩
    · rw [hlen]
      unfold maxLen at hm
      omega
    · obtain ⟨hjl, hjx⟩ := List.getElem?_eq_some_iff.1 hj
      rw [hlen] at hjl
      have e : x = f ⟨j, hjl⟩ := by rw [← hjx]; simp
      subst e
      obtain ⟨cs', h1, _, h3, h4⟩ := hf2 ⟨j, hjl⟩
      refine ⟨cs', h3, h1, fun i u hu => ?_⟩
      have hi : i < d.sz := by rw [← h3]; exact (List.getElem?_eq_some_iff.1 hu).1
      rw [← Deep.add_add, h4 i hi, hu]
    · obtain ⟨i, _, rfl⟩ := List.mem_map.1 hx
      obtain ⟨_, _, h2, _⟩ := hf2 i
      exact h2
theorem rows_of {α : Type} (d : Kd α) (good : α → Prop) {T e : TypeId} {v : Value} {dd : DataW H} {p : List MemPlace} {b0 : Nat} {r : Reach} (hT : P.underlying T = some (.slice e)) (hC : P.cellsOf e = d.sz)
    (leaf : ∀ (fuel : Nat) (cs : List Value) (y : DataW H × List MemPlace), cs.length = d.sz → DataW.trod enc P w base spare held fuel e cs = some y → ∃ x, d.K w x cs ∧ good x)
    (o : Value.okWide P w r b0 T v) (h : DataW.Trod enc P w base spare held T v dd p) : ∃ (a : Option Addr) (cap : Nat) (xs : List α), v = .slice a xs.length cap ∧ xs.length ≤ cap ∧ d.C w a xs.length xs ∧ ∀ x ∈ xs, good x := by
  obtain ⟨a, len, cap, rfl⟩ := okWide_slice hT o
  obtain ⟨fuel, hf⟩ := h
  obtain ⟨a', cap', xs, hcs, h1, h2, h3⟩ := rows_cs d good hT hC leaf hf
  simp [Value.cells] at hcs
  obtain ⟨rfl, rfl, rfl⟩ := hcs
  exact ⟨_, _, xs, rfl, h1, h2, h3⟩
theorem u8_bd {n : Int} (h : (Lit.int .u8 n).wf = true) : 0 ≤ n ∧ n ≤ 255 := by
  have h1 : IntKind.u8.min = 0 := by decide
  have h2 : IntKind.u8.max = 255 := by decide
  simp only [Lit.wf, h1, h2, Bool.and_eq_true, decide_eq_true_eq] at h
  exact h
theorem open_packets {v : Value} {dd : DataW H} {p : List MemPlace} {b0 : Nat} {r : Reach} (o : Value.okWide Try.prog w r b0 30 v) (h : DataW.Trod enc Try.prog w base spare held 30 v dd p) : ∃ (a : Option Addr) (cap : Nat) (xs : List (List Int)), v = .slice a xs.length cap ∧ xs.length ≤ cap ∧ (Kd.slice 5 (Kd.int .u8)).C w a xs.length xs ∧ ∀ x ∈ xs, ∀ y ∈ x, 0 ≤ y ∧ y ≤ 255 :=
  rows_of (Kd.slice 5 (Kd.int .u8)) (fun x => ∀ y ∈ x, 0 ≤ y ∧ y ≤ 255) Try.underlying30 (by kernel_rfl) (fun fuel cs y hl h => by
    obtain ⟨a, cap, xs, rfl, h1, h2, h3⟩ := rows_cs (Kd.int .u8) (fun y => 0 ≤ y ∧ y ≤ 255) Try.underlying22 (by kernel_rfl) (fun fuel cs y hl h =>
      match cs, hl with
      | [x0], _ => by
        obtain ⟨n, rfl, hn⟩ := int_leaf Try.underlying5 h
        exact ⟨n, rfl, u8_bd hn⟩) h
    exact ⟨xs, ⟨a, cap, rfl, h1, h2⟩, h3⟩) o h
end Go.Proofs.Ytnlpckkaddpieaa.Open
