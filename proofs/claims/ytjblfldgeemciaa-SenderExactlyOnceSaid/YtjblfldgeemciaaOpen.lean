/-
  Arguments opened: frames, calls, steps, slices of words and of truth values, as the lists that the walks read.
-/
import Derived.Test.YtjblfldgeemciaaWMore
import Derived.Lib.SmallJoins
import Derived.ProofKit
import Derived.OpenShut
import Derived.Deep.Slices
import Derived.Deep.Strs
import Derived.Test.YtjblfldgeemciaaEx
namespace Go.Proofs.Ytjblfldgeemciaa.Open
open Go.Deep Go.Proofs.Ytjblfldgeemciaa.Pr Go.RowKit Go.ChangeShapes Go.WideShapes Go.ChangeAt Go.Proofs.YtjblfldgeemciaaW.PrintWords
set_option linter.unusedSimpArgs false
variable {H : Type} {enc : TypeId × Value → H} {P : Program} {w : World} {base : Nat} {spare : Nat → Bool} {held : Bool}
theorem int_leaf {fuel : Nat} {t : TypeId} {k : IntKind} {v : Value} {y : DataW H × List MemPlace} (hu : P.underlying t = some (.int k)) (h : DataW.trod enc P w base spare held fuel t [v] = some y) : ∃ n, v = .int k n ∧ (Lit.int k n).wf = true := by
  cases fuel with
  | zero => simp [DataW.trod] at h
  | succ f =>
    cases v <;> simp [DataW.trod, hu] at h
    rename_i k' n
    obtain ⟨⟨rfl, h⟩, _⟩ := h
    exact ⟨n, rfl, h⟩
theorem bool_leaf {fuel : Nat} {t : TypeId} {v : Value} {y : DataW H × List MemPlace} (hu : P.underlying t = some .bool) (h : DataW.trod enc P w base spare held fuel t [v] = some y) : ∃ b, v = .bool b := by
  cases fuel with
  | zero => simp [DataW.trod] at h
  | succ f =>
    cases v <;> simp [DataW.trod, hu] at h
    rename_i b
    exact ⟨b, rfl⟩
/-- A slice of elements that each read as an x: the list of these. -/
theorem rows_cs {α : Type} (d : Kd α) (good : α → Prop) {T e : TypeId} {cs : List Value} {y : DataW H × List MemPlace} {fuel : Nat} (hT : P.underlying T = some (.slice e)) (hC : P.cellsOf e = d.sz)
    (leaf : ∀ (fuel : Nat) (cs : List Value) (y : DataW H × List MemPlace), cs.length = d.sz → DataW.trod enc P w base spare held fuel e cs = some y → ∃ x, d.K w x cs ∧ good x)
    (hf : DataW.trod enc P w base spare held fuel T cs = some y) : ∃ (a : Option Addr) (cap : Nat) (xs : List α), cs = [.slice a xs.length cap] ∧ xs.length ≤ cap ∧ d.C w a xs.length xs ∧ ∀ x ∈ xs, good x := by
  rcases Deep.open_slice hT hf with ⟨hcs, _⟩ | ⟨a', len, cap, m, n, D, Pl, hcs, _, hl, hm, hmm, _, hel⟩
  · subst hcs
    exact ⟨none, 0, [], rfl, Nat.le_refl _, Kd.C_nil d w, fun x hx => by simp at hx⟩
  · subst hcs
    have hlm : len ≤ m := by rw [hmm]; split <;> omega
    have hx : ∀ i, i < len → ∃ x cs', d.K w x cs' ∧ good x ∧ cs'.length = d.sz ∧ ∀ j, j < d.sz → w.cell? ((a'.add (i * d.sz)).add j) = cs'[j]? := by
      intro i hi
      obtain ⟨cs', h1, h2⟩ := hel i (by omega)
      rw [hC] at h1
      obtain ⟨_, h3, h4⟩ := World.cells?_some h1
      obtain ⟨x, hk, hg⟩ := leaf n cs' _ h3 h2
      exact ⟨x, cs', hk, hg, h3, h4⟩
    have hne : ∀ i : Fin len, ∃ x, ∃ cs', d.K w x cs' ∧ good x ∧ cs'.length = d.sz ∧ ∀ j, j < d.sz → w.cell? ((a'.add (i.1 * d.sz)).add j) = cs'[j]? := fun i => hx i.1 i.2
    obtain ⟨f, hf2⟩ := Classical.skolem.1 hne
    have hlen : ((List.finRange len).map f).length = len := by simp
    refine ⟨some a', cap, (List.finRange len).map f, by rw [hlen], by rw [hlen]; exact hl, ⟨rfl, ?_, fun _ => ⟨a', rfl, fun j x hj => ?_⟩⟩, fun x hx => ?_⟩
    · rw [hlen]
      unfold maxLen at hm
      omega
    · obtain ⟨hjl, hjx⟩ := List.getElem?_eq_some_iff.1 hj
      rw [hlen] at hjl
      have e : x = f ⟨j, hjl⟩ := by rw [← hjx]; simp
      subst e
      obtain ⟨cs', h1, _, h3, h4⟩ := hf2 ⟨j, hjl⟩
      refine ⟨cs', h3, h1, fun i u hu => ?_⟩
      have hi : i < d.sz := by rw [← h3]; exact (List.getElem?_eq_some_iff.1 hu).1
      rw [← Deep.add_add, h4 i hi, hu]
    · obtain ⟨i, _, rfl⟩ := List.mem_map.1 hx
      obtain ⟨_, _, h2, _⟩ := hf2 i
      exact h2
theorem rows_of {α : Type} (d : Kd α) (good : α → Prop) {T e : TypeId} {v : Value} {dd : DataW H} {p : List MemPlace} {b0 : Nat} {r : Reach} (hT : P.underlying T = some (.slice e)) (hC : P.cellsOf e = d.sz)
    (leaf : ∀ (fuel : Nat) (cs : List Value) (y : DataW H × List MemPlace), cs.length = d.sz → DataW.trod enc P w base spare held fuel e cs = some y → ∃ x, d.K w x cs ∧ good x)
    (o : Value.okWide P w r b0 T v) (h : DataW.Trod enc P w base spare held T v dd p) : ∃ (a : Option Addr) (cap : Nat) (xs : List α), v = .slice a xs.length cap ∧ xs.length ≤ cap ∧ d.C w a xs.length xs ∧ ∀ x ∈ xs, good x := by
  obtain ⟨a, len, cap, rfl⟩ := okWide_slice hT o
  obtain ⟨fuel, hf⟩ := h
  obtain ⟨a', cap', xs, hcs, h1, h2, h3⟩ := rows_cs d good hT hC leaf hf
  simp [Value.cells] at hcs
  obtain ⟨rfl, rfl, rfl⟩ := hcs
  exact ⟨_, _, xs, rfl, h1, h2, h3⟩
theorem trod_struct4 {t : TypeId} {f0 f1 f2 f3 : Field} {fuel : Nat} {cs : List Value} {x : DataW H × List MemPlace} (ht : P.underlying t = some (.struct #[f0, f1, f2, f3])) (h : DataW.trod enc P w base spare held fuel t cs = some x) :
    ∃ y0 y1 y2 y3 n, DataW.trod enc P w base spare held n f0.type ((cs.drop f0.offset).take (P.cellsOf f0.type)) = some y0 ∧
      DataW.trod enc P w base spare held n f1.type ((cs.drop f1.offset).take (P.cellsOf f1.type)) = some y1 ∧ DataW.trod enc P w base spare held n f2.type ((cs.drop f2.offset).take (P.cellsOf f2.type)) = some y2 ∧ DataW.trod enc P w base spare held n f3.type ((cs.drop f3.offset).take (P.cellsOf f3.type)) = some y3 := by
  obtain ⟨xs, n, _, rfl, hl, hlen, hf⟩ := DataW.trod_struct ht h
  match xs, hlen with
  | [y0, y1, y2, y3], _ => exact ⟨y0, y1, y2, y3, n, by simpa using hf 0 f0 rfl, by simpa using hf 1 f1 rfl, by simpa using hf 2 f2 rfl, by simpa using hf 3 f3 rfl⟩
/-- What a whole number of a kind is. -/
theorem wf_bd {k : IntKind} {n lo hi : Int} (h : (Lit.int k n).wf = true) (h1 : k.min = lo) (h2 : k.max = hi) : lo ≤ n ∧ n ≤ hi := by
  simp only [Lit.wf, h1, h2, Bool.and_eq_true, decide_eq_true_eq] at h
  exact h
theorem i64_bd {n : Int} (h : (Lit.int .i64 n).wf = true) : -9223372036854775808 ≤ n ∧ n ≤ 9223372036854775807 := wf_bd h (by decide) (by decide)
theorem i16_bd {n : Int} (h : (Lit.int .i16 n).wf = true) : -32768 ≤ n ∧ n ≤ 32767 := wf_bd h (by decide) (by decide)
theorem u8_bd {n : Int} (h : (Lit.int .u8 n).wf = true) : 0 ≤ n ∧ n ≤ 255 := wf_bd h (by decide) (by decide)
def SCall (x : S43) : Prop := (-9223372036854775808 ≤ x.f0 ∧ x.f0 ≤ 9223372036854775807) ∧ (0 ≤ x.f1 ∧ x.f1 ≤ 255) ∧ (-9223372036854775808 ≤ x.f2 ∧ x.f2 ≤ 9223372036854775807)
theorem call_leaf {fuel : Nat} {cs : List Value} {y : DataW H × List MemPlace} (hl : cs.length = 4) (h : DataW.trod enc Try.prog w base spare held fuel 43 cs = some y) : ∃ x : S43, k43.K w x cs ∧ SCall x :=
  match cs, hl with
  | [x0, x1, x2, x3], _ => by
    have hz2 : Try.prog.cellsOf 2 = 1 := by kernel_rfl
    have hz5 : Try.prog.cellsOf 5 = 1 := by kernel_rfl
    have hz4 : Try.prog.cellsOf 4 = 1 := by kernel_rfl
    obtain ⟨y0, y1, y2, y3, n, h0, h1, h2, h3⟩ := trod_struct4 Try.underlying43 h
    simp only [hz2, hz4, hz5] at h0 h1 h2 h3
    simp at h0 h1 h2 h3
    obtain ⟨a, rfl, ha⟩ := int_leaf Try.underlying2 h0
    obtain ⟨b, rfl, hb⟩ := int_leaf Try.underlying5 h1
    obtain ⟨c, rfl, hc⟩ := int_leaf Try.underlying2 h2
    obtain ⟨d, rfl⟩ := bool_leaf Try.underlying4 h3
    exact ⟨(⟨a, b, c, d⟩ : S43), k43_mk w _, i64_bd ha, u8_bd hb, i64_bd hc⟩
theorem open_calls {v : Value} {dd : DataW H} {p : List MemPlace} {b0 : Nat} {r : Reach} (o : Value.okWide Try.prog w r b0 40 v) (h : DataW.Trod enc Try.prog w base spare held 40 v dd p) : ∃ (a : Option Addr) (cap : Nat) (xs : List S43), v = .slice a xs.length cap ∧ xs.length ≤ cap ∧ k43.C w a xs.length xs ∧ ∀ x ∈ xs, SCall x :=
  rows_of k43 SCall Try.underlying40 (by kernel_rfl) (fun fuel cs y hl h => call_leaf hl h) o h
theorem open_words {v : Value} {dd : DataW H} {p : List MemPlace} {b0 : Nat} {r : Reach} (o : Value.okWide Try.prog w r b0 44 v) (h : DataW.Trod enc Try.prog w base spare held 44 v dd p) : ∃ (a : Option Addr) (cap : Nat) (xs : List Int), v = .slice a xs.length cap ∧ xs.length ≤ cap ∧ (Kd.int .i16).C w a xs.length xs ∧ ∀ x ∈ xs, -32768 ≤ x ∧ x ≤ 32767 :=
  rows_of (Kd.int .i16) (fun x => -32768 ≤ x ∧ x ≤ 32767) Try.underlying44 (by kernel_rfl) (fun fuel cs y hl h =>
    match cs, hl with
    | [x0], _ => by
      obtain ⟨a, rfl, ha⟩ := int_leaf Try.underlying49 h
      exact ⟨a, rfl, i16_bd ha⟩) o h
theorem open_bools {v : Value} {dd : DataW H} {p : List MemPlace} {b0 : Nat} {r : Reach} (o : Value.okWide Try.prog w r b0 34 v) (h : DataW.Trod enc Try.prog w base spare held 34 v dd p) : ∃ (a : Option Addr) (cap : Nat) (xs : List Bool), v = .slice a xs.length cap ∧ xs.length ≤ cap ∧ Kd.bool.C w a xs.length xs ∧ ∀ x ∈ xs, True :=
  rows_of Kd.bool (fun _ => True) Try.underlying34 (by kernel_rfl) (fun fuel cs y hl h =>
    match cs, hl with
    | [x0], _ => by
      obtain ⟨a, rfl⟩ := bool_leaf Try.underlying4 h
      exact ⟨a, rfl, trivial⟩) o h
theorem open_bytes {v : Value} {dd : DataW H} {p : List MemPlace} {b0 : Nat} {r : Reach} (o : Value.okWide Try.prog w r b0 22 v) (h : DataW.Trod enc Try.prog w base spare held 22 v dd p) : ∃ (a : Option Addr) (cap : Nat) (xs : List Int), v = .slice a xs.length cap ∧ xs.length ≤ cap ∧ (Kd.int .u8).C w a xs.length xs ∧ ∀ x ∈ xs, 0 ≤ x ∧ x ≤ 255 :=
  rows_of (Kd.int .u8) (fun x => 0 ≤ x ∧ x ≤ 255) Try.underlying22 (by kernel_rfl) (fun fuel cs y hl h =>
    match cs, hl with
    | [x0], _ => by
      obtain ⟨a, rfl, ha⟩ := int_leaf Try.underlying5 h
      exact ⟨a, rfl, u8_bd ha⟩) o h
theorem open_int {v : Value} {dd : DataW H} {p : List MemPlace} {t : TypeId} {k : IntKind} (ht : Try.prog.underlying t = some (.int k)) {b0 : Nat} {r : Reach} (o : Value.okWide Try.prog w r b0 t v) (h : DataW.Trod enc Try.prog w base spare held t v dd p) : ∃ n, v = .int k n ∧ (Lit.int k n).wf = true := by
  obtain ⟨n, rfl⟩ := okWide_int ht o
  obtain ⟨fuel, hf⟩ := h
  obtain ⟨m, he, hw⟩ := int_leaf ht hf
  injection he with _ he
  subst he
  exact ⟨_, rfl, hw⟩
theorem open_frame {v : Value} {dd : DataW H} {p : List MemPlace} {b0 : Nat} {r : Reach} (o : Value.okWide Try.prog w r b0 24 v) (h : DataW.Trod enc Try.prog w base spare held 24 v dd p) : ∃ (k s : Int) (a : Option Addr) (cap : Nat) (xs : List Int), v = .agg #[.int .i64 k, .int .i64 s, .slice a xs.length cap] ∧ xs.length ≤ cap ∧ (Kd.int .u8).C w a xs.length xs ∧ ((-9223372036854775808 ≤ k ∧ k ≤ 9223372036854775807) ∧ (-9223372036854775808 ≤ s ∧ s ≤ 9223372036854775807)) := by
  obtain ⟨cs, rfl, hsz⟩ := okWide_struct Try.underlying24 o
  obtain ⟨fuel, hf⟩ := h
  have hl : cs.toList.length = 3 := by simpa using hsz.trans (by kernel_rfl)
  simp only [Value.cells] at hf
  have e : cs = cs.toList.toArray := by simp
  generalize cs.toList = L at *
  subst e
  match L, hl with
  | [x0, x1, x2], _ =>
  have hz3 : Try.prog.cellsOf 3 = 1 := by kernel_rfl
  have hz22 : Try.prog.cellsOf 22 = 1 := by kernel_rfl
  obtain ⟨y0, y1, y2, n, _, _, h0, h1, h2⟩ := trod_struct3 Try.underlying24 hf
  simp only [hz3, hz22] at h0 h1 h2
  simp at h0 h1 h2
  obtain ⟨a, rfl, ha⟩ := int_leaf Try.underlying3 h0
  obtain ⟨b, rfl, hb⟩ := int_leaf Try.underlying3 h1
  obtain ⟨ad, cap, xs, hcs, h4, h5, _⟩ := rows_cs (Kd.int .u8) (fun _ => True) Try.underlying22 (by kernel_rfl) (fun fuel cs y hl h =>
    match cs, hl with
    | [x0], _ => by
      obtain ⟨a, rfl, ha⟩ := int_leaf Try.underlying5 h
      exact ⟨a, rfl, trivial⟩) h2
  injection hcs with hcs
  subst hcs
  exact ⟨a, b, ad, cap, xs, rfl, h4, h5, i64_bd ha, i64_bd hb⟩
end Go.Proofs.Ytjblfldgeemciaa.Open
