/-
  Arguments opened: a slice of structs of whole numbers, as the list that the walks read.
-/
import Derived.Test.YtgefhejpaojhbaaWMore
import Derived.Lib.SmallJoins
import Derived.ProofKit
import Derived.OpenShut
import Derived.Deep.Slices
import Derived.Deep.Strs
import Derived.Test.YtgefhejpaojhbaaProg
namespace Go.Proofs.Ytgefhejpaojhbaa.Open
open Go.Deep Go.RowKit Go.ChangeShapes Go.WideShapes Go.ChangeAt Go.Proofs.YtgefhejpaojhbaaW.PrintWords
set_option linter.unusedSimpArgs false
variable {H : Type} {enc : TypeId × Value → H} {P : Program} {w : World} {base : Nat} {spare : Nat → Bool} {held : Bool}
theorem int_leaf {fuel : Nat} {t : TypeId} {k : IntKind} {v : Value} {y : DataW H × List MemPlace} (hu : P.underlying t = some (.int k)) (h : DataW.trod enc P w base spare held fuel t [v] = some y) : ∃ n, v = .int k n ∧ (Lit.int k n).wf = true := by
  cases fuel with
  | zero => simp [DataW.trod] at h
  | succ f =>
    cases v <;> simp [DataW.trod, hu] at h
    rename_i k' n
    obtain ⟨⟨rfl, h⟩, _⟩ := h
    exact ⟨n, rfl, h⟩
theorem bool_leaf {fuel : Nat} {t : TypeId} {v : Value} {y : DataW H × List MemPlace} (hu : P.underlying t = some .bool) (h : DataW.trod enc P w base spare held fuel t [v] = some y) : ∃ b, v = .bool b := by
  cases fuel with
  | zero => simp [DataW.trod] at h
  | succ f =>
    cases v <;> simp [DataW.trod, hu] at h
    rename_i b
    exact ⟨b, rfl⟩
/-- A slice of elements that each read as an x: the list of these. -/
theorem rows_of {α : Type} (d : Kd α) (good : α → Prop) {T e : TypeId} {v : Value} {dd : DataW H} {p : List MemPlace} {b0 : Nat} {r : Reach} (hT : P.underlying T = some (.slice e)) (hC : P.cellsOf e = d.sz)
    (leaf : ∀ (fuel : Nat) (cs : List Value) (y : DataW H × List MemPlace), cs.length = d.sz → DataW.trod enc P w base spare held fuel e cs = some y → ∃ x, d.K w x cs ∧ good x)
    (o : Value.okWide P w r b0 T v) (h : DataW.Trod enc P w base spare held T v dd p) : ∃ (a : Option Addr) (cap : Nat) (xs : List α), v = .slice a xs.length cap ∧ xs.length ≤ cap ∧ d.C w a xs.length xs ∧ ∀ x ∈ xs, good x := by
  obtain ⟨a, len, cap, rfl⟩ := okWide_slice hT o
  obtain ⟨fuel, hf⟩ := h
  rcases Deep.open_slice hT hf with ⟨hcs, _⟩ | ⟨a', len', cap', m, n, D, Pl, hcs, _, hl, hm, hmm, _, hel⟩
  · simp [Value.cells] at hcs
    obtain ⟨rfl, rfl, rfl⟩ := hcs
    exact ⟨none, 0, [], rfl, Nat.le_refl _, Kd.C_nil d w, fun x hx => by simp at hx⟩
  · simp [Value.cells] at hcs
    obtain ⟨rfl, rfl, rfl⟩ := hcs
    have hlm : len ≤ m := by rw [hmm]; split <;> omega
    have hx : ∀ i, i < len → ∃ x cs', d.K w x cs' ∧ good x ∧ cs'.length = d.sz ∧ ∀ j, j < d.sz → w.cell? ((a'.add (i * d.sz)).add j) = cs'[j]? := by
      intro i hi
      obtain ⟨cs', h1, h2⟩ := hel i (by omega)
      rw [hC] at h1
      obtain ⟨_, h3, h4⟩ := World.cells?_some h1
      obtain ⟨x, hk, hg⟩ := leaf n cs' _ h3 h2
      exact ⟨x, cs', hk, hg, h3, h4⟩
    have hne : ∀ i : Fin len, ∃ x, ∃ cs', d.K w x cs' ∧ good x ∧ cs'.length = d.sz ∧ ∀ j, j < d.sz → w.cell? ((a'.add (i.1 * d.sz)).add j) = cs'[j]? := fun i => hx i.1 i.2
    obtain ⟨f, hf2⟩ := Classical.skolem.1 hne
    have hlen : ((List.finRange len).map f).length = len := by simp
    refine ⟨some a', cap, (List.finRange len).map f, by rw [hlen], by rw [hlen]; exact hl, ⟨rfl, ?_, fun _ => ⟨a', rfl, fun j x hj => ?_⟩⟩, fun x hx => ?_⟩
    · rw [hlen]
      unfold maxLen at hm
      omega
    · obtain ⟨hjl, hjx⟩ := List.getElem?_eq_some_iff.1 hj
      rw [hlen] at hjl
      have e : x = f ⟨j, hjl⟩ := by rw [← hjx]; simp
      subst e
      obtain ⟨cs', h1, _, h3, h4⟩ := hf2 ⟨j, hjl⟩
      refine ⟨cs', h3, h1, fun i u hu => ?_⟩
      have hi : i < d.sz := by rw [← h3]; exact (List.getElem?_eq_some_iff.1 hu).1
      rw [← Deep.add_add, h4 i hi, hu]
    · obtain ⟨i, _, rfl⟩ := List.mem_map.1 hx
      obtain ⟨_, _, h2, _⟩ := hf2 i
      exact h2
/-- A stamped value's cells. -/
theorem stamped_leaf {fuel : Nat} {cs : List Value} {y : DataW H × List MemPlace} {t : TypeId} (ht : t = 49 ∨ t = 46) (hl : cs.length = 4) (h : DataW.trod enc Try.prog w base spare held fuel t cs = some y) : ∃ a b c d, cs = [.int .i16 a, .int .i64 b, .int .i64 c, .int .i64 d] ∧ (Lit.int .i16 a).wf = true ∧ (Lit.int .i64 b).wf = true ∧ (Lit.int .i64 c).wf = true ∧ (Lit.int .i64 d).wf = true := by
  match cs, hl with
  | [x0, x1, x2, x3], _ =>
  have hz : Try.prog.cellsOf 28 = 2 := by kernel_rfl
  have hz1 : Try.prog.cellsOf 44 = 1 := by kernel_rfl
  have hz2 : Try.prog.cellsOf 2 = 1 := by kernel_rfl
  have hz3 : Try.prog.cellsOf 3 = 1 := by kernel_rfl
  rcases ht with rfl | rfl
  · obtain ⟨y0, y1, y2, n, _, _, h0, h1, h2⟩ := trod_struct3 Try.underlying49 h
    simp only [hz, hz1, hz2, hz3] at h0 h1 h2
    simp at h0 h1 h2
    obtain ⟨y3, y4, m, _, _, h3, h4⟩ := trod_struct2 Try.underlying28 h1
    simp only [hz2] at h3 h4
    simp at h3 h4
    obtain ⟨a, rfl, ha⟩ := int_leaf Try.underlying44 h0
    obtain ⟨b, rfl, hb⟩ := int_leaf Try.underlying2 h3
    obtain ⟨c, rfl, hc⟩ := int_leaf Try.underlying2 h4
    obtain ⟨d, rfl, hd⟩ := int_leaf Try.underlying3 h2
    exact ⟨a, b, c, d, rfl, ha, hb, hc, hd⟩
  · obtain ⟨y0, y1, y2, n, _, _, h0, h1, h2⟩ := trod_struct3 Try.underlying46 h
    simp only [hz, hz1, hz2, hz3] at h0 h1 h2
    simp at h0 h1 h2
    obtain ⟨y3, y4, m, _, _, h3, h4⟩ := trod_struct2 Try.underlying28 h1
    simp only [hz2] at h3 h4
    simp at h3 h4
    obtain ⟨a, rfl, ha⟩ := int_leaf Try.underlying44 h0
    obtain ⟨b, rfl, hb⟩ := int_leaf Try.underlying2 h3
    obtain ⟨c, rfl, hc⟩ := int_leaf Try.underlying2 h4
    obtain ⟨d, rfl, hd⟩ := int_leaf Try.underlying3 h2
    exact ⟨a, b, c, d, rfl, ha, hb, hc, hd⟩
theorem open_stamped {v : Value} {dd : DataW H} {p : List MemPlace} {b0 : Nat} {r : Reach} (o : Value.okWide Try.prog w r b0 49 v) (h : DataW.Trod enc Try.prog w base spare held 49 v dd p) : ∃ a b c d, v = .agg #[.int .i16 a, .int .i64 b, .int .i64 c, .int .i64 d] ∧ (Lit.int .i16 a).wf = true ∧ (Lit.int .i64 b).wf = true ∧ (Lit.int .i64 c).wf = true ∧ (Lit.int .i64 d).wf = true := by
  obtain ⟨cs, rfl, hsz⟩ := okWide_struct Try.underlying49 o
  obtain ⟨fuel, hf⟩ := h
  obtain ⟨a, b, c, d, e, h1, h2, h3, h4⟩ := stamped_leaf (.inl rfl) (by simpa [Value.cells] using hsz.trans (by kernel_rfl)) hf
  refine ⟨a, b, c, d, ?_, h1, h2, h3, h4⟩
  simp only [Value.cells] at e
  rw [← Array.toArray_toList (xs := cs), e]
theorem open_now {v : Value} {dd : DataW H} {p : List MemPlace} {b0 : Nat} {r : Reach} (o : Value.okWide Try.prog w r b0 50 v) (h : DataW.Trod enc Try.prog w base spare held 50 v dd p) : ∃ b c d, v = .agg #[.int .i64 b, .int .i64 c, .int .i64 d] ∧ (Lit.int .i64 b).wf = true ∧ (Lit.int .i64 c).wf = true ∧ (Lit.int .i64 d).wf = true := by
  obtain ⟨cs, rfl, hsz⟩ := okWide_struct Try.underlying50 o
  obtain ⟨fuel, hf⟩ := h
  have hl : cs.toList.length = 3 := by simpa using hsz.trans (by kernel_rfl)
  simp only [Value.cells] at hf
  have e : cs = cs.toList.toArray := by simp
  generalize cs.toList = L at *
  subst e
  match L, hl with
  | [x1, x2, x3], _ =>
  have hz : Try.prog.cellsOf 28 = 2 := by kernel_rfl
  have hz2 : Try.prog.cellsOf 2 = 1 := by kernel_rfl
  have hz3 : Try.prog.cellsOf 3 = 1 := by kernel_rfl
  obtain ⟨y1, y2, n, _, _, h1, h2⟩ := trod_struct2 Try.underlying50 hf
  simp only [hz, hz2, hz3] at h1 h2
  simp at h1 h2
  obtain ⟨y3, y4, m, _, _, h3, h4⟩ := trod_struct2 Try.underlying28 h1
  simp only [hz2] at h3 h4
  simp at h3 h4
  obtain ⟨b, rfl, hb⟩ := int_leaf Try.underlying2 h3
  obtain ⟨c, rfl, hc⟩ := int_leaf Try.underlying2 h4
  obtain ⟨d, rfl, hd⟩ := int_leaf Try.underlying3 h2
  exact ⟨b, c, d, rfl, hb, hc, hd⟩
theorem okWide_array {t e : TypeId} {n : Nat} {v : Value} {b0 : Nat} {r : Reach} (ht : P.underlying t = some (.array n e)) (h : Value.okWide P w r b0 t v) : ∃ cs, v = .agg cs ∧ cs.size = P.cellsOf t := by
  simp only [Value.okWide, ht] at h
  obtain ⟨cs, h1, h2, _⟩ := h
  exact ⟨cs, h1, h2⟩
theorem open_pair {v : Value} {dd : DataW H} {p : List MemPlace} {b0 : Nat} {r : Reach} (o : Value.okWide Try.prog w r b0 54 v) (h : DataW.Trod enc Try.prog w base spare held 54 v dd p) : ∃ b c, v = .agg #[.int .i64 b, .int .i64 c] ∧ (Lit.int .i64 b).wf = true ∧ (Lit.int .i64 c).wf = true := by
  obtain ⟨cs, rfl, hsz⟩ := okWide_array Try.underlying54 o
  obtain ⟨fuel, hf⟩ := h
  have hl : cs.toList.length = 2 := by simpa using hsz.trans (by kernel_rfl)
  simp only [Value.cells] at hf
  have e : cs = cs.toList.toArray := by simp
  generalize cs.toList = L at *
  subst e
  match L, hl with
  | [x1, x2], _ =>
  have hz2 : Try.prog.cellsOf 2 = 1 := by kernel_rfl
  obtain ⟨xs, m, _, _, _, hxl, hx⟩ := DataW.trod_array Try.underlying54 hf
  have h0 := hx 0 (by omega)
  have h1 := hx 1 (by omega)
  simp only [hz2] at h0 h1
  match xs, hxl with
  | [q0, q1], _ =>
  simp at h0 h1
  obtain ⟨b, rfl, hb⟩ := int_leaf Try.underlying2 h0
  obtain ⟨c, rfl, hc⟩ := int_leaf Try.underlying2 h1
  exact ⟨b, c, rfl, hb, hc⟩
theorem open_eight {v : Value} {dd : DataW H} {p : List MemPlace} {b0 : Nat} {r : Reach} (o : Value.okWide Try.prog w r b0 71 v) (h : DataW.Trod enc Try.prog w base spare held 71 v dd p) : ∃ b0 b1 b2 b3 b4 b5 b6 b7, v = .agg #[.int .u8 b0, .int .u8 b1, .int .u8 b2, .int .u8 b3, .int .u8 b4, .int .u8 b5, .int .u8 b6, .int .u8 b7] ∧ (Lit.int .u8 b0).wf = true ∧ (Lit.int .u8 b1).wf = true ∧ (Lit.int .u8 b2).wf = true ∧ (Lit.int .u8 b3).wf = true ∧ (Lit.int .u8 b4).wf = true ∧ (Lit.int .u8 b5).wf = true ∧ (Lit.int .u8 b6).wf = true ∧ (Lit.int .u8 b7).wf = true := by
  obtain ⟨cs, rfl, hsz⟩ := okWide_array Try.underlying71 o
  obtain ⟨fuel, hf⟩ := h
  have hl : cs.toList.length = 8 := by simpa using hsz.trans (by kernel_rfl)
  simp only [Value.cells] at hf
  have e : cs = cs.toList.toArray := by simp
  generalize cs.toList = L at *
  subst e
  match L, hl with
  | [x0, x1, x2, x3, x4, x5, x6, x7], _ =>
  have hz2 : Try.prog.cellsOf 5 = 1 := by kernel_rfl
  obtain ⟨xs, m, _, _, _, hxl, hx⟩ := DataW.trod_array Try.underlying71 hf
  have h0 := hx 0 (by omega)
  have h1 := hx 1 (by omega)
  have h2 := hx 2 (by omega)
  have h3 := hx 3 (by omega)
  have h4 := hx 4 (by omega)
  have h5 := hx 5 (by omega)
  have h6 := hx 6 (by omega)
  have h7 := hx 7 (by omega)
  simp only [hz2] at h0 h1 h2 h3 h4 h5 h6 h7
  match xs, hxl with
  | [q0, q1, q2, q3, q4, q5, q6, q7], _ =>
  simp at h0 h1 h2 h3 h4 h5 h6 h7
  obtain ⟨a0, rfl, g0⟩ := int_leaf Try.underlying5 h0
  obtain ⟨a1, rfl, g1⟩ := int_leaf Try.underlying5 h1
  obtain ⟨a2, rfl, g2⟩ := int_leaf Try.underlying5 h2
  obtain ⟨a3, rfl, g3⟩ := int_leaf Try.underlying5 h3
  obtain ⟨a4, rfl, g4⟩ := int_leaf Try.underlying5 h4
  obtain ⟨a5, rfl, g5⟩ := int_leaf Try.underlying5 h5
  obtain ⟨a6, rfl, g6⟩ := int_leaf Try.underlying5 h6
  obtain ⟨a7, rfl, g7⟩ := int_leaf Try.underlying5 h7
  exact ⟨a0, a1, a2, a3, a4, a5, a6, a7, rfl, g0, g1, g2, g3, g4, g5, g6, g7⟩
end Go.Proofs.Ytgefhejpaojhbaa.Open
