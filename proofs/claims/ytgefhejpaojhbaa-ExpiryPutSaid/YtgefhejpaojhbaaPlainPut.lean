/-
  The plain laws of stored values: both ways of storing, and of reading, tell the same, and what was read is stored again as it was.
-/
import Derived.Test.YtgefhejpaojhbaaPlain
import Derived.Test.YtgefhejpaojhbaaPr12
import Derived.Laws.BitsAllLaws
namespace Go.Proofs.Ytgefhejpaojhbaa.Plain
open Go.RowKit Go.Proofs.Ytgefhejpaojhbaa.Pr Go.Proofs.YtgefhejpaojhbaaW.PrintWords Go.Proofs.YtgefhejpaojhbaaW.PrintLast Go.Proofs.YtgefhejpaojhbaaW.PrintMore
theorem wu16 (n : Int) : IntKind.u16.wrap n = n % 65536 := by simp [IntKind.wrap, IntKind.bits, IntKind.signed]
theorem wi16 (n : Int) : IntKind.i16.wrap n = (n + 32768) % 65536 - 32768 := by simp [IntKind.wrap, IntKind.bits, IntKind.signed]; (try split) <;> omega
theorem or16 (a b : Int) (h1 : 0 ≤ a) (h2 : a < 256) (h3 : 0 ≤ b) (h4 : b < 256) : bits .or .u16 a (b * 256) = a + b * 256 := by
  obtain ⟨A, rfl⟩ := Int.eq_ofNat_of_zero_le h1
  obtain ⟨B, rfl⟩ := Int.eq_ofNat_of_zero_le h3
  have e : ((B : Int) * 256) = ((B * 256 : Nat) : Int) := by omega
  rw [e, u16_or_nat A (B * 256) (by omega) (by omega), Nat.or_comm]
  have h := Nat.two_pow_add_eq_or_of_lt (i := 8) (b := A) (by omega) B
  have h' : B * 256 ||| A = B * 256 + A := by
    rw [show B * 256 = 2 ^ 8 * B by omega]
    exact h.symm
  rw [h']
  omega
theorem ofInt_i64 (a : Nat) (ha : a < 18446744073709551616) : (BitVec.ofInt 64 (a : Int)).toNat = a := by
  rw [BitVec.ofInt_natCast, BitVec.toNat_ofNat]
  exact Nat.mod_eq_of_lt (by omega)
theorem wi64 (n : Int) (h1 : -9223372036854775808 ≤ n) (h2 : n ≤ 9223372036854775807) : IntKind.i64.wrap n = n := by
  simp [IntKind.wrap, IntKind.bits, IntKind.signed]
  (try split) <;> omega
theorem or64_nat (a b : Nat) (ha : a < 9223372036854775808) (hb : b < 9223372036854775808) : bits .or .i64 (a : Int) (b : Int) = ((a ||| b : Nat) : Int) := by
  have hx : a ||| b < 2 ^ 63 := Nat.or_lt_two_pow (by omega) (by omega)
  show IntKind.i64.wrap ((BitVec.ofInt 64 (a : Int) ||| BitVec.ofInt 64 (b : Int)).toNat : Int) = _
  rw [BitVec.toNat_or, ofInt_i64 a (by omega), ofInt_i64 b (by omega), wi64 _ (by omega) (by omega)]
theorem or64 (s : Nat) (P : Nat) (hP : P = 2 ^ s) (a b : Int) (h1 : 0 ≤ a) (h2 : a < (P : Int)) (h3 : 0 ≤ b) (h4 : b < 256) (h5 : P ≤ 4294967296) : bits .or .i64 a (b * (P : Int)) = a + b * (P : Int) := by
  obtain ⟨A, rfl⟩ := Int.eq_ofNat_of_zero_le h1
  obtain ⟨B, rfl⟩ := Int.eq_ofNat_of_zero_le h3
  have hb : B * P ≤ 255 * 4294967296 := Nat.mul_le_mul (by omega) h5
  have e : ((B : Int) * (P : Int)) = ((B * P : Nat) : Int) := by push_cast; rfl
  rw [e, or64_nat A (B * P) (by omega) (by omega), Nat.or_comm]
  have h := Nat.two_pow_add_eq_or_of_lt (i := s) (b := A) (by rw [← hP]; omega) B
  have h' : B * P ||| A = B * P + A := by
    rw [Nat.mul_comm B P, hP]
    exact h.symm
  rw [h']
  omega
theorem or64z (a : Int) (h1 : 0 ≤ a) (h2 : a < 256) : bits .or .i64 0 a = a := by
  obtain ⟨A, rfl⟩ := Int.eq_ofNat_of_zero_le h1
  have h := or64_nat 0 A (by omega) (by omega)
  simpa using h
theorem getT_eq (b3 b4 b5 b6 b7 : Int) (h3 : 0 ≤ b3 ∧ b3 ≤ 255) (h4 : 0 ≤ b4 ∧ b4 ≤ 255) (h5 : 0 ≤ b5 ∧ b5 ≤ 255) (h6 : 0 ≤ b6 ∧ b6 ≤ 255) (h7 : 0 ≤ b7 ∧ b7 ≤ 255) : getT b3 b4 b5 b6 b7 = refT b3 b4 b5 b6 b7 := by
  unfold getT refT
  rw [or64z b3 h3.1 (by omega)]
  have e4 : bits .or .i64 b3 (b4 * 256) = b3 + b4 * 256 := or64 8 256 (by decide) b3 b4 (by omega) (by omega) (by omega) (by omega) (by omega)
  have e5 : bits .or .i64 (b3 + b4 * 256) (b5 * 65536) = b3 + b4 * 256 + b5 * 65536 := or64 16 65536 (by decide) (b3 + b4 * 256) b5 (by omega) (by omega) (by omega) (by omega) (by omega)
  have e6 : bits .or .i64 (b3 + b4 * 256 + b5 * 65536) (b6 * 16777216) = b3 + b4 * 256 + b5 * 65536 + b6 * 16777216 := or64 24 16777216 (by decide) (b3 + b4 * 256 + b5 * 65536) b6 (by omega) (by omega) (by omega) (by omega) (by omega)
  have e7 : bits .or .i64 (b3 + b4 * 256 + b5 * 65536 + b6 * 16777216) (b7 * 4294967296) = b3 + b4 * 256 + b5 * 65536 + b6 * 16777216 + b7 * 4294967296 := or64 32 4294967296 (by decide) (b3 + b4 * 256 + b5 * 65536 + b6 * 16777216) b7 (by omega) (by omega) (by omega) (by omega) (by omega)
  rw [e4, e5, e6, e7]
  omega
theorem tm (a : Int) (h : 0 ≤ a) (n : Int) : Int.tmod a n = a % n := Int.tmod_eq_emod_of_nonneg h
theorem td (a : Int) (h : 0 ≤ a) (n : Int) : Int.tdiv a n = a / n := Int.tdiv_eq_ediv_of_nonneg h
theorem tm_neg (a : Int) : Int.tmod a 256 = if a < 0 then -((-a) % 256) else a % 256 := by
  split
  · rename_i h
    have e := Int.neg_tmod (-a) 256
    rw [Int.neg_neg, tm (-a) (by omega)] at e
    exact e
  · exact tm a (by omega) 256
theorem put01_tells (v : Int) (h1 : -32768 ≤ v) (h2 : v ≤ 32767) : trickleref01_Put.f v = some (v % 256, v % 65536 / 256 % 256) := by
  unfold trickleref01_Put.f
  rw [w64 v (by omega) (by omega)]
  by_cases h : v < 0
  · rw [if_pos h, w64 (v + 65536) (by omega) (by omega), tm (v + 65536) (by omega), td (v + 65536) (by omega), w64 ((v + 65536) / 256) (by omega) (by omega)]
    congr 1
    rw [Prod.mk.injEq]
    omega
  · rw [if_neg h, tm v (by omega), td v (by omega), w64 (v / 256) (by omega) (by omega)]
    congr 1
    rw [Prod.mk.injEq]
    omega
theorem put_same (v lo hi ep : Int) (h1 : -32768 ≤ v) (h2 : v ≤ 32767) : expiry_Put.f v lo hi ep = trickleref41_Put.f v lo hi ep := by
  unfold expiry_Put.f trickleref41_Put.f
  rw [put01_tells v h1 h2, wu16]
  simp -implicitDefEqProofs only [Option.bind_some]
  have he : ep % 256 = if Int.tmod ep 256 < 0 then Int.tmod ep 256 + 256 else Int.tmod ep 256 % 256 := by
    rw [tm_neg]
    (repeat' split) <;> omega
  rw [← he]
  by_cases a : 0 < hi
  · rw [if_pos a]
    by_cases b : hi ≤ 1099511627775
    · rw [if_pos b]
      simp only [if_neg (show ¬ hi < 0 by omega), if_neg (show ¬ 1099511627775 < hi by omega), Option.some.injEq, Prod.mk.injEq]
      refine ⟨trivial, trivial, trivial, trivial, trivial, ?_, ?_, ?_⟩ <;> omega
    · rw [if_neg b]
      simp only [if_neg (show ¬ hi < 0 by omega), if_pos (show 1099511627775 < hi by omega)]
  · rw [if_neg a]
    by_cases b : hi < 0
    · simp only [if_pos b]
    · have e : hi = 0 := by omega
      subst e
      rfl
theorem wrap_tells (n : Int) (h1 : 0 ≤ n) (h2 : n ≤ 65535) : trickleref01_Wrap.f n = some (IntKind.i16.wrap n) := by
  unfold trickleref01_Wrap.f
  rw [tm n h1, show n % 65536 = n by omega, if_neg (by omega)]
  by_cases h : n ≥ 32768
  · rw [if_pos h, w64 (n - 65536) (by omega) (by omega), wi16, wi16]
    congr 1
    omega
  · rw [if_neg h]
theorem get01_tells (a b : Int) (h1 : 0 ≤ a ∧ a ≤ 255) (h2 : 0 ≤ b ∧ b ≤ 255) : trickleref01_Get.f a b = some (IntKind.i16.wrap (a + b * 256)) := by
  unfold trickleref01_Get.f
  rw [w64 a (by omega) (by omega), w64 b (by omega) (by omega), w64 (256 * b) (by omega) (by omega), w64 (a + 256 * b) (by omega) (by omega), wrap_tells (a + 256 * b) (by omega) (by omega)]
  rw [show a + 256 * b = a + b * 256 by omega]
  rfl
theorem get_tells (b0 b1 b2 b3 b4 b5 b6 b7 : Int) (h0 : 0 ≤ b0 ∧ b0 ≤ 255) (h1 : 0 ≤ b1 ∧ b1 ≤ 255) (h2 : 0 ≤ b2 ∧ b2 ≤ 255) (h3 : 0 ≤ b3 ∧ b3 ≤ 255) (h4 : 0 ≤ b4 ∧ b4 ≤ 255) (h5 : 0 ≤ b5 ∧ b5 ≤ 255) (h6 : 0 ≤ b6 ∧ b6 ≤ 255) (h7 : 0 ≤ b7 ∧ b7 ≤ 255) : expiry_Get.f b0 b1 b2 b3 b4 b5 b6 b7 = some (IntKind.i16.wrap (b0 + b1 * 256), refT b3 b4 b5 b6 b7, refT b3 b4 b5 b6 b7, b2) := by
  unfold expiry_Get.f
  rw [if_pos ⟨h2, h3, h4, h5, h6, h7⟩, getT_eq b3 b4 b5 b6 b7 h3 h4 h5 h6 h7, wu16, wu16, wu16, show b0 % 65536 = b0 by omega, show b1 % 65536 = b1 by omega, show b1 * 256 % 65536 = b1 * 256 by omega, or16 b0 b1 (by omega) (by omega) (by omega) (by omega), wi64 b2 (by omega) (by omega)]
theorem get_same (b0 b1 b2 b3 b4 b5 b6 b7 : Int) (h0 : 0 ≤ b0 ∧ b0 ≤ 255) (h1 : 0 ≤ b1 ∧ b1 ≤ 255) (h2 : 0 ≤ b2 ∧ b2 ≤ 255) (h3 : 0 ≤ b3 ∧ b3 ≤ 255) (h4 : 0 ≤ b4 ∧ b4 ≤ 255) (h5 : 0 ≤ b5 ∧ b5 ≤ 255) (h6 : 0 ≤ b6 ∧ b6 ≤ 255) (h7 : 0 ≤ b7 ∧ b7 ≤ 255) : expiry_Get.f b0 b1 b2 b3 b4 b5 b6 b7 = trickleref41_Get.f b0 b1 b2 b3 b4 b5 b6 b7 := by
  rw [get_tells b0 b1 b2 b3 b4 b5 b6 b7 h0 h1 h2 h3 h4 h5 h6 h7]
  unfold trickleref41_Get.f
  rw [if_pos ⟨h2, h3, h4, h5, h6, h7⟩, get01_tells b0 b1 h0 h1, wi64 b2 (by omega) (by omega)]
  rfl
theorem put_get (b0 b1 b2 b3 b4 b5 b6 b7 : Int) (h0 : 0 ≤ b0 ∧ b0 ≤ 255) (h1 : 0 ≤ b1 ∧ b1 ≤ 255) (h2 : 0 ≤ b2 ∧ b2 ≤ 255) (h3 : 0 ≤ b3 ∧ b3 ≤ 255) (h4 : 0 ≤ b4 ∧ b4 ≤ 255) (h5 : 0 ≤ b5 ∧ b5 ≤ 255) (h6 : 0 ≤ b6 ∧ b6 ≤ 255) (h7 : 0 ≤ b7 ∧ b7 ≤ 255) : expiry_Put.f (IntKind.i16.wrap (b0 + b1 * 256)) (refT b3 b4 b5 b6 b7) (refT b3 b4 b5 b6 b7) b2 = some (b0, b1, b2, b3, b4, b5, b6, b7) := by
  unfold expiry_Put.f
  rw [wu16, wi16]
  obtain ⟨T, hT⟩ : ∃ T, refT b3 b4 b5 b6 b7 = T := ⟨_, rfl⟩
  rw [hT]
  unfold refT at hT
  by_cases a : 0 < T
  · rw [if_pos a, if_pos (by omega)]
    simp only [Option.some.injEq, Prod.mk.injEq]
    refine ⟨?_, ?_, ?_, ?_, ?_, ?_, ?_, ?_⟩ <;> omega
  · rw [if_neg a]
    simp only [Option.some.injEq, Prod.mk.injEq]
    refine ⟨?_, ?_, ?_, ?_, ?_, ?_, ?_, ?_⟩ <;> omega
end Go.Proofs.Ytgefhejpaojhbaa.Plain
