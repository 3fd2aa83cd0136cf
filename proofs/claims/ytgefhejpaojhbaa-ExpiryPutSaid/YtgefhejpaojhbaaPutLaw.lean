-- Written by programs of this session for this claim.
import Derived.Test.YtgefhejpaojhbaaPr5
import Derived.Test.YtgefhejpaojhbaaPr12
import Derived.Test.YtgefhejpaojhbaaEq71
namespace Go.Proofs.Ytgefhejpaojhbaa.Pr
open Go.RowKit Go.Proofs.YtgefhejpaojhbaaW.PrintWords Go.Proofs.YtgefhejpaojhbaaW.PrintLast Go.Proofs.YtgefhejpaojhbaaW.PrintMore
attribute [local go_sem] max2_int min2_int max_two min_two max_three min_three max_four min_four   -- for this text's walks alone
set_option linter.unusedVariables false
set_option linter.unusedSimpArgs false
set_option linter.unnecessarySimpa false
attribute [local go_sem high] eqA46 eqA71
/-! ### tricklelaw41_ExpiryPut: function 8 -/
def tricklelaw41_ExpiryPut.j0 : Nat → Bool → Int → Int → Int → Int → Int → Int → Int → Int → Int → Int → Int → Option (Bool)
  | 0, _, _, _, _, _, _, _, _, _, _, _, _ => none
  | k + 1, x43, x157000, x157001, x157002, x157003, x158000, x158001, x158002, x176000, x176001, x176002, x176003 => if x43 = true then (some false) else ((trickleref41_Valid.f x157000 x157001 x157002 x157003).bind fun t221 => (if t221 = true then ((tricklelaw41_now.f x158000 x158001 x158002).bind fun bt222 => ((expiry_Fresh.f x176000 x176001 x176002 x176003 bt222.1 bt222.2.1 bt222.2.2 50).bind fun t225 => ((tricklelaw41_own.f x157000 x157001 x157002 x157003).bind fun bt226 => ((tricklelaw41_now.f x158000 x158001 x158002).bind fun bt230 => ((expiry_Fresh.f bt226.1 bt226.2.1 bt226.2.2.1 bt226.2.2.2 bt230.1 bt230.2.1 bt230.2.2 50).bind fun t233 => (if (t225 == t233) = true then ((tricklelaw41_now.f x158000 x158001 x158002).bind fun bt234 => ((expiry_Usable.f x176000 x176001 x176002 x176003 bt234.1 bt234.2.1 bt234.2.2 7 90).bind fun t237 => ((tricklelaw41_own.f x157000 x157001 x157002 x157003).bind fun bt238 => ((tricklelaw41_now.f x158000 x158001 x158002).bind fun bt242 => ((expiry_Usable.f bt238.1 bt238.2.1 bt238.2.2.1 bt238.2.2.2 bt242.1 bt242.2.1 bt242.2.2 7 90).bind fun t245 => (some (t237 == t245))))))) else (some false))))))) else (some true)))
def tricklelaw41_ExpiryPut.f (k : Nat) (a0_0 : Int) (a0_1 : Int) (a0_2 : Int) (a0_3 : Int) (a1_0 : Int) (a1_1 : Int) (a1_2 : Int) (a2_0 : Int) (a2_1 : Int) (a2_2 : Int) (a2_3 : Int) (a2_4 : Int) (a2_5 : Int) (a2_6 : Int) (a2_7 : Int) : Option (Bool) := (tricklelaw41_own.f a0_0 a0_1 a0_2 a0_3).bind fun bt159 => ((expiry_Put.f bt159.1 bt159.2.1 bt159.2.2.1 bt159.2.2.2).bind fun bt163 => ((expiry_Get.f bt163.1 bt163.2.1 bt163.2.2.1 bt163.2.2.2.1 bt163.2.2.2.2.1 bt163.2.2.2.2.2.1 bt163.2.2.2.2.2.2.1 bt163.2.2.2.2.2.2.2).bind fun bt171 => ((tricklelaw41_examples.f).bind fun t176 => (if t176 = true then ((tricklelaw41_own.f a0_0 a0_1 a0_2 a0_3).bind fun bt177 => ((expiry_Put.f bt177.1 bt177.2.1 bt177.2.2.1 bt177.2.2.2).bind fun bt181 => ((trickleref41_Put.f a0_0 a0_1 a0_2 a0_3).bind fun bt189 => (if (!(bt181.1 == bt189.1) || (!(bt181.2.1 == bt189.2.1) || (!(bt181.2.2.1 == bt189.2.2.1) || (!(bt181.2.2.2.1 == bt189.2.2.2.1) || (!(bt181.2.2.2.2.1 == bt189.2.2.2.2.1) || (!(bt181.2.2.2.2.2.1 == bt189.2.2.2.2.2.1) || (!(bt181.2.2.2.2.2.2.1 == bt189.2.2.2.2.2.2.1) || (!(bt181.2.2.2.2.2.2.2 == bt189.2.2.2.2.2.2.2))))))))) = true then (tricklelaw41_ExpiryPut.j0 k true a0_0 a0_1 a0_2 a0_3 a1_0 a1_1 a1_2 bt171.1 bt171.2.1 bt171.2.2.1 bt171.2.2.2) else ((expiry_Get.f a2_0 a2_1 a2_2 a2_3 a2_4 a2_5 a2_6 a2_7).bind fun bt197 => ((trickleref41_Get.f a2_0 a2_1 a2_2 a2_3 a2_4 a2_5 a2_6 a2_7).bind fun bt201 => ((tricklelaw41_own.f bt201.1 bt201.2.1 bt201.2.2.1 bt201.2.2.2).bind fun bt205 => (if (!(bt197.1 == bt205.1) || ((!(bt197.2.1 == bt205.2.1) || (!(bt197.2.2.1 == bt205.2.2.1))) || (!(bt197.2.2.2 == bt205.2.2.2)))) = true then (tricklelaw41_ExpiryPut.j0 k true a0_0 a0_1 a0_2 a0_3 a1_0 a1_1 a1_2 bt171.1 bt171.2.1 bt171.2.2.1 bt171.2.2.2) else ((expiry_Get.f a2_0 a2_1 a2_2 a2_3 a2_4 a2_5 a2_6 a2_7).bind fun bt209 => ((expiry_Put.f bt209.1 bt209.2.1 bt209.2.2.1 bt209.2.2.2).bind fun bt213 => (if (!(bt213.1 == a2_0) || (!(bt213.2.1 == a2_1) || (!(bt213.2.2.1 == a2_2) || (!(bt213.2.2.2.1 == a2_3) || (!(bt213.2.2.2.2.1 == a2_4) || (!(bt213.2.2.2.2.2.1 == a2_5) || (!(bt213.2.2.2.2.2.2.1 == a2_6) || (!(bt213.2.2.2.2.2.2.2 == a2_7))))))))) = true then (tricklelaw41_ExpiryPut.j0 k true a0_0 a0_1 a0_2 a0_3 a1_0 a1_1 a1_2 bt171.1 bt171.2.1 bt171.2.2.1 bt171.2.2.2) else (tricklelaw41_ExpiryPut.j0 k (bt171.1 != a0_0) a0_0 a0_1 a0_2 a0_3 a1_0 a1_1 a1_2 bt171.1 bt171.2.1 bt171.2.2.1 bt171.2.2.2)))))))))))) else (tricklelaw41_ExpiryPut.j0 k true a0_0 a0_1 a0_2 a0_3 a1_0 a1_1 a1_2 bt171.1 bt171.2.1 bt171.2.2.1 bt171.2.2.2)))))
theorem tricklelaw41_ExpiryPut.mono_l : ∀ k, (∀ y0 y1 y2 y3 y4 y5 y6 y7 y8 y9 y10 y11, LeO (tricklelaw41_ExpiryPut.j0 k y0 y1 y2 y3 y4 y5 y6 y7 y8 y9 y10 y11) (tricklelaw41_ExpiryPut.j0 (k + 1) y0 y1 y2 y3 y4 y5 y6 y7 y8 y9 y10 y11))
  | 0 => fun _ _ _ _ _ _ _ _ _ _ _ _ r h => by simp [tricklelaw41_ExpiryPut.j0] at h
  | k + 1 => by
    have ih0 := tricklelaw41_ExpiryPut.mono_l k
    · intro y0 y1 y2 y3 y4 y5 y6 y7 y8 y9 y10 y11
      unfold tricklelaw41_ExpiryPut.j0
      repeat' first
      | (with_reducible exact ih0 _ _ _ _ _ _ _ _ _ _ _ _)
      | (with_reducible exact LeO.refl _)
      | (with_reducible exact LeO.none _)
      | (with_reducible refine LeO.ite ?_ ?_)
      | (with_reducible refine LeO.bind ?_ (fun _ => ?_))
      | exact ih0 _ _ _ _ _ _ _ _ _ _ _ _
      | exact LeO.none _
      | refine LeO.ite ?_ ?_
      | refine LeO.bind ?_ (fun _ => ?_)
theorem tricklelaw41_ExpiryPut.mono : ∀ a0 a1 a2 a3 a4 a5 a6 a7 a8 a9 a10 a11 a12 a13 a14 k, LeO (tricklelaw41_ExpiryPut.f k a0 a1 a2 a3 a4 a5 a6 a7 a8 a9 a10 a11 a12 a13 a14) (tricklelaw41_ExpiryPut.f (k + 1) a0 a1 a2 a3 a4 a5 a6 a7 a8 a9 a10 a11 a12 a13 a14) := by
  intro a0 a1 a2 a3 a4 a5 a6 a7 a8 a9 a10 a11 a12 a13 a14 k
  have ih0 := tricklelaw41_ExpiryPut.mono_l k
  unfold tricklelaw41_ExpiryPut.f
  repeat' first
      | (with_reducible exact ih0 _ _ _ _ _ _ _ _ _ _ _ _)
      | (with_reducible exact LeO.refl _)
      | (with_reducible exact LeO.none _)
      | (with_reducible refine LeO.ite ?_ ?_)
      | (with_reducible refine LeO.bind ?_ (fun _ => ?_))
      | exact ih0 _ _ _ _ _ _ _ _ _ _ _ _
      | exact LeO.none _
      | refine LeO.ite ?_ ?_
      | refine LeO.bind ?_ (fun _ => ?_)
def tricklelaw41_ExpiryPut.T2 : Bool × List (List Nat × List Nat) := (true, [([], []), ([0], [0]), ([1, 0], [1]), ([2], [2]), ([3, 2, 2], [2, 3]), ([4, 4, 2], [2, 4]), ([2], [2]), ([6, 5, 2], [2, 6]), ([5, 7, 2], [2, 5, 7]), ([2, 8], [2, 8]), ([9, 7], [9]), ([10], [10]), ([11, 10, 10], [10, 11]), ([10], [10]), ([13, 12, 10], [10, 13]), ([14, 14, 10], [10, 14]), ([12, 15, 10], [10, 12, 15]), ([10, 16], [10, 16]), ([17, 15], [17]), ([18], [18]), ([19, 18, 18], [18, 19]), ([20, 20, 18], [18, 20]), ([18], [18]), ([21, 22, 18], [18, 21, 22]), ([18, 23], [18, 23]), ([24, 21], [24]), ([25], [25]), ([26, 25], [25, 26]), ([25], [25]), ([28, 25], [25, 28]), ([27, 29, 25], [25, 27, 29]), ([25, 30], [25, 30])])
def tricklelaw41_ExpiryPut.B2 : List Nat := [0, 1, 3, 7, 15, 31, 7, 127, 255, 511, 1023, 2047, 4095, 2047, 16383, 32767, 65535, 131071, 262143, 524287, 1048575, 2097151, 524287, 8388607, 16777215, 33554431, 67108863, 134217727, 67108863, 335544319, 1073741823, 2147483647]
theorem tricklelaw41_ExpiryPut.tab2 : rtab .any (opsOf Try.f8 2) = tricklelaw41_ExpiryPut.T2 := by kernel_rfl
theorem tricklelaw41_ExpiryPut.bits2 : waitsOk tricklelaw41_ExpiryPut.T2.2 tricklelaw41_ExpiryPut.B2 = true := by kernel_rfl
def tricklelaw41_ExpiryPut.T4 : Bool × List (List Nat × List Nat) := (true, [([], []), ([0], [0]), ([1], [1]), ([2, 1], [2]), ([3], [3]), ([3], [3]), ([5, 3, 3], [3, 5]), ([4, 6, 6, 3], [3, 4, 6]), ([3], [3]), ([8, 7, 3], [3, 8]), ([3], [3]), ([10, 9, 3], [3, 10]), ([9, 11, 11, 3], [3, 9, 11]), ([7, 12, 3], [3, 7, 12]), ([13, 12, 3], [3, 13]), ([14], [14]), ([14], [14]), ([16, 14, 14], [14, 16]), ([15, 17, 17, 14], [14, 15, 17]), ([14], [14]), ([19, 18, 14], [14, 19]), ([14], [14]), ([21, 20, 14], [14, 21]), ([20, 22, 22, 14], [14, 20, 22]), ([18, 23, 14], [14, 18, 23]), ([14, 24, 3], [3, 14, 24]), ([3, 25], [3, 25]), ([26, 23, 0, 1, 2, 3, 4, 5, 6, 7, 8, 9, 10, 11, 12, 13, 14, 15, 16, 17, 18, 19, 20, 21, 22, 23, 24, 25, 26], [26])])
def tricklelaw41_ExpiryPut.B4 : List Nat := [0, 1, 3, 7, 15, 15, 47, 127, 15, 511, 15, 2047, 4095, 8191, 16383, 32767, 32767, 98303, 262143, 32767, 1048575, 32767, 4194303, 8388607, 16777215, 33554431, 67108863, 134217727]
theorem tricklelaw41_ExpiryPut.tab4 : rtab .any (opsOf Try.f8 4) = tricklelaw41_ExpiryPut.T4 := by kernel_rfl
theorem tricklelaw41_ExpiryPut.bits4 : waitsOk tricklelaw41_ExpiryPut.T4.2 tricklelaw41_ExpiryPut.B4 = true := by kernel_rfl
set_option maxHeartbeats 8000000 in
set_option maxRecDepth 100000 in
theorem tricklelaw41_ExpiryPut.calls (k : Nat) (a0_0 : Int) (a0_1 : Int) (a0_2 : Int) (a0_3 : Int) (a1_0 : Int) (a1_1 : Int) (a1_2 : Int) (a2_0 : Int) (a2_1 : Int) (a2_2 : Int) (a2_3 : Int) (a2_4 : Int) (a2_5 : Int) (a2_6 : Int) (a2_7 : Int) (r : Bool) (w : World) (hF1 : expiry_Put.f a0_0 a0_1 a0_2 a0_3 = trickleref41_Put.f a0_0 a0_1 a0_2 a0_3) (hF2 : expiry_Get.f a2_0 a2_1 a2_2 a2_3 a2_4 a2_5 a2_6 a2_7 = trickleref41_Get.f a2_0 a2_1 a2_2 a2_3 a2_4 a2_5 a2_6 a2_7) (hF3 : ∀ g1 g2 g3 g4, expiry_Get.f a2_0 a2_1 a2_2 a2_3 a2_4 a2_5 a2_6 a2_7 = some (g1, g2, g3, g4) → expiry_Put.f g1 g2 g3 g4 = some (a2_0, a2_1, a2_2, a2_3, a2_4, a2_5, a2_6, a2_7)) (h : tricklelaw41_ExpiryPut.f k a0_0 a0_1 a0_2 a0_3 a1_0 a1_1 a1_2 a2_0 a2_1 a2_2 a2_3 a2_4 a2_5 a2_6 a2_7 = some r) :
    Calls Try.prog 8 #[.agg #[.int .i16 a0_0, .int .i64 a0_1, .int .i64 a0_2, .int .i64 a0_3], .agg #[.int .i64 a1_0, .int .i64 a1_1, .int .i64 a1_2], .agg #[.int .u8 a2_0, .int .u8 a2_1, .int .u8 a2_2, .int .u8 a2_3, .int .u8 a2_4, .int .u8 a2_5, .int .u8 a2_6, .int .u8 a2_7]] w fun e w' => e = .returned (.bool r) ∧ Below w.heap.size w w' := by
  have hu49 := Try.underlying49
  have hu50 := Try.underlying50
  have hu71 := Try.underlying71
  have hu46 := Try.underlying46
  have HB := Aside0.mk (Below.refl w.heap.size w)
  have H : ((tricklelaw41_own.f a0_0 a0_1 a0_2 a0_3).bind fun bt159 => ((expiry_Put.f bt159.1 bt159.2.1 bt159.2.2.1 bt159.2.2.2).bind fun bt163 => ((expiry_Get.f bt163.1 bt163.2.1 bt163.2.2.1 bt163.2.2.2.1 bt163.2.2.2.2.1 bt163.2.2.2.2.2.1 bt163.2.2.2.2.2.2.1 bt163.2.2.2.2.2.2.2).bind fun bt171 => ((tricklelaw41_examples.f).bind fun t176 => (if t176 = true then ((tricklelaw41_own.f a0_0 a0_1 a0_2 a0_3).bind fun bt177 => ((expiry_Put.f bt177.1 bt177.2.1 bt177.2.2.1 bt177.2.2.2).bind fun bt181 => ((trickleref41_Put.f a0_0 a0_1 a0_2 a0_3).bind fun bt189 => (if (!(bt181.1 == bt189.1) || (!(bt181.2.1 == bt189.2.1) || (!(bt181.2.2.1 == bt189.2.2.1) || (!(bt181.2.2.2.1 == bt189.2.2.2.1) || (!(bt181.2.2.2.2.1 == bt189.2.2.2.2.1) || (!(bt181.2.2.2.2.2.1 == bt189.2.2.2.2.2.1) || (!(bt181.2.2.2.2.2.2.1 == bt189.2.2.2.2.2.2.1) || (!(bt181.2.2.2.2.2.2.2 == bt189.2.2.2.2.2.2.2))))))))) = true then (tricklelaw41_ExpiryPut.j0 k true a0_0 a0_1 a0_2 a0_3 a1_0 a1_1 a1_2 bt171.1 bt171.2.1 bt171.2.2.1 bt171.2.2.2) else ((expiry_Get.f a2_0 a2_1 a2_2 a2_3 a2_4 a2_5 a2_6 a2_7).bind fun bt197 => ((trickleref41_Get.f a2_0 a2_1 a2_2 a2_3 a2_4 a2_5 a2_6 a2_7).bind fun bt201 => ((tricklelaw41_own.f bt201.1 bt201.2.1 bt201.2.2.1 bt201.2.2.2).bind fun bt205 => (if (!(bt197.1 == bt205.1) || ((!(bt197.2.1 == bt205.2.1) || (!(bt197.2.2.1 == bt205.2.2.1))) || (!(bt197.2.2.2 == bt205.2.2.2)))) = true then (tricklelaw41_ExpiryPut.j0 k true a0_0 a0_1 a0_2 a0_3 a1_0 a1_1 a1_2 bt171.1 bt171.2.1 bt171.2.2.1 bt171.2.2.2) else ((expiry_Get.f a2_0 a2_1 a2_2 a2_3 a2_4 a2_5 a2_6 a2_7).bind fun bt209 => ((expiry_Put.f bt209.1 bt209.2.1 bt209.2.2.1 bt209.2.2.2).bind fun bt213 => (if (!(bt213.1 == a2_0) || (!(bt213.2.1 == a2_1) || (!(bt213.2.2.1 == a2_2) || (!(bt213.2.2.2.1 == a2_3) || (!(bt213.2.2.2.2.1 == a2_4) || (!(bt213.2.2.2.2.2.1 == a2_5) || (!(bt213.2.2.2.2.2.2.1 == a2_6) || (!(bt213.2.2.2.2.2.2.2 == a2_7))))))))) = true then (tricklelaw41_ExpiryPut.j0 k true a0_0 a0_1 a0_2 a0_3 a1_0 a1_1 a1_2 bt171.1 bt171.2.1 bt171.2.2.1 bt171.2.2.2) else (tricklelaw41_ExpiryPut.j0 k (bt171.1 != a0_0) a0_0 a0_1 a0_2 a0_3 a1_0 a1_1 a1_2 bt171.1 bt171.2.1 bt171.2.2.1 bt171.2.2.2)))))))))))) else (tricklelaw41_ExpiryPut.j0 k true a0_0 a0_1 a0_2 a0_3 a1_0 a1_1 a1_2 bt171.1 bt171.2.1 bt171.2.2.1 bt171.2.2.2)))))) = some r := h
  clear h
  replace H := Option.bind_eq_some_iff.mp H
  obtain ⟨⟨t159, t160, t161, t162⟩, A40, H⟩ := H
  replace H : ((expiry_Put.f t159 t160 t161 t162).bind fun bt163 => ((expiry_Get.f bt163.1 bt163.2.1 bt163.2.2.1 bt163.2.2.2.1 bt163.2.2.2.2.1 bt163.2.2.2.2.2.1 bt163.2.2.2.2.2.2.1 bt163.2.2.2.2.2.2.2).bind fun bt171 => ((tricklelaw41_examples.f).bind fun t176 => (if t176 = true then ((tricklelaw41_own.f a0_0 a0_1 a0_2 a0_3).bind fun bt177 => ((expiry_Put.f bt177.1 bt177.2.1 bt177.2.2.1 bt177.2.2.2).bind fun bt181 => ((trickleref41_Put.f a0_0 a0_1 a0_2 a0_3).bind fun bt189 => (if (!(bt181.1 == bt189.1) || (!(bt181.2.1 == bt189.2.1) || (!(bt181.2.2.1 == bt189.2.2.1) || (!(bt181.2.2.2.1 == bt189.2.2.2.1) || (!(bt181.2.2.2.2.1 == bt189.2.2.2.2.1) || (!(bt181.2.2.2.2.2.1 == bt189.2.2.2.2.2.1) || (!(bt181.2.2.2.2.2.2.1 == bt189.2.2.2.2.2.2.1) || (!(bt181.2.2.2.2.2.2.2 == bt189.2.2.2.2.2.2.2))))))))) = true then (tricklelaw41_ExpiryPut.j0 k true a0_0 a0_1 a0_2 a0_3 a1_0 a1_1 a1_2 bt171.1 bt171.2.1 bt171.2.2.1 bt171.2.2.2) else ((expiry_Get.f a2_0 a2_1 a2_2 a2_3 a2_4 a2_5 a2_6 a2_7).bind fun bt197 => ((trickleref41_Get.f a2_0 a2_1 a2_2 a2_3 a2_4 a2_5 a2_6 a2_7).bind fun bt201 => ((tricklelaw41_own.f bt201.1 bt201.2.1 bt201.2.2.1 bt201.2.2.2).bind fun bt205 => (if (!(bt197.1 == bt205.1) || ((!(bt197.2.1 == bt205.2.1) || (!(bt197.2.2.1 == bt205.2.2.1))) || (!(bt197.2.2.2 == bt205.2.2.2)))) = true then (tricklelaw41_ExpiryPut.j0 k true a0_0 a0_1 a0_2 a0_3 a1_0 a1_1 a1_2 bt171.1 bt171.2.1 bt171.2.2.1 bt171.2.2.2) else ((expiry_Get.f a2_0 a2_1 a2_2 a2_3 a2_4 a2_5 a2_6 a2_7).bind fun bt209 => ((expiry_Put.f bt209.1 bt209.2.1 bt209.2.2.1 bt209.2.2.2).bind fun bt213 => (if (!(bt213.1 == a2_0) || (!(bt213.2.1 == a2_1) || (!(bt213.2.2.1 == a2_2) || (!(bt213.2.2.2.1 == a2_3) || (!(bt213.2.2.2.2.1 == a2_4) || (!(bt213.2.2.2.2.2.1 == a2_5) || (!(bt213.2.2.2.2.2.2.1 == a2_6) || (!(bt213.2.2.2.2.2.2.2 == a2_7))))))))) = true then (tricklelaw41_ExpiryPut.j0 k true a0_0 a0_1 a0_2 a0_3 a1_0 a1_1 a1_2 bt171.1 bt171.2.1 bt171.2.2.1 bt171.2.2.2) else (tricklelaw41_ExpiryPut.j0 k (bt171.1 != a0_0) a0_0 a0_1 a0_2 a0_3 a1_0 a1_1 a1_2 bt171.1 bt171.2.1 bt171.2.2.1 bt171.2.2.2)))))))))))) else (tricklelaw41_ExpiryPut.j0 k true a0_0 a0_1 a0_2 a0_3 a1_0 a1_1 a1_2 bt171.1 bt171.2.1 bt171.2.2.1 bt171.2.2.2))))) = some r := H
  have A4 := Aside0.mk A40
  clear A40
  replace H := Option.bind_eq_some_iff.mp H
  obtain ⟨⟨t163, t164, t165, t166, t167, t168, t169, t170⟩, A50, H⟩ := H
  replace H : ((expiry_Get.f t163 t164 t165 t166 t167 t168 t169 t170).bind fun bt171 => ((tricklelaw41_examples.f).bind fun t176 => (if t176 = true then ((tricklelaw41_own.f a0_0 a0_1 a0_2 a0_3).bind fun bt177 => ((expiry_Put.f bt177.1 bt177.2.1 bt177.2.2.1 bt177.2.2.2).bind fun bt181 => ((trickleref41_Put.f a0_0 a0_1 a0_2 a0_3).bind fun bt189 => (if (!(bt181.1 == bt189.1) || (!(bt181.2.1 == bt189.2.1) || (!(bt181.2.2.1 == bt189.2.2.1) || (!(bt181.2.2.2.1 == bt189.2.2.2.1) || (!(bt181.2.2.2.2.1 == bt189.2.2.2.2.1) || (!(bt181.2.2.2.2.2.1 == bt189.2.2.2.2.2.1) || (!(bt181.2.2.2.2.2.2.1 == bt189.2.2.2.2.2.2.1) || (!(bt181.2.2.2.2.2.2.2 == bt189.2.2.2.2.2.2.2))))))))) = true then (tricklelaw41_ExpiryPut.j0 k true a0_0 a0_1 a0_2 a0_3 a1_0 a1_1 a1_2 bt171.1 bt171.2.1 bt171.2.2.1 bt171.2.2.2) else ((expiry_Get.f a2_0 a2_1 a2_2 a2_3 a2_4 a2_5 a2_6 a2_7).bind fun bt197 => ((trickleref41_Get.f a2_0 a2_1 a2_2 a2_3 a2_4 a2_5 a2_6 a2_7).bind fun bt201 => ((tricklelaw41_own.f bt201.1 bt201.2.1 bt201.2.2.1 bt201.2.2.2).bind fun bt205 => (if (!(bt197.1 == bt205.1) || ((!(bt197.2.1 == bt205.2.1) || (!(bt197.2.2.1 == bt205.2.2.1))) || (!(bt197.2.2.2 == bt205.2.2.2)))) = true then (tricklelaw41_ExpiryPut.j0 k true a0_0 a0_1 a0_2 a0_3 a1_0 a1_1 a1_2 bt171.1 bt171.2.1 bt171.2.2.1 bt171.2.2.2) else ((expiry_Get.f a2_0 a2_1 a2_2 a2_3 a2_4 a2_5 a2_6 a2_7).bind fun bt209 => ((expiry_Put.f bt209.1 bt209.2.1 bt209.2.2.1 bt209.2.2.2).bind fun bt213 => (if (!(bt213.1 == a2_0) || (!(bt213.2.1 == a2_1) || (!(bt213.2.2.1 == a2_2) || (!(bt213.2.2.2.1 == a2_3) || (!(bt213.2.2.2.2.1 == a2_4) || (!(bt213.2.2.2.2.2.1 == a2_5) || (!(bt213.2.2.2.2.2.2.1 == a2_6) || (!(bt213.2.2.2.2.2.2.2 == a2_7))))))))) = true then (tricklelaw41_ExpiryPut.j0 k true a0_0 a0_1 a0_2 a0_3 a1_0 a1_1 a1_2 bt171.1 bt171.2.1 bt171.2.2.1 bt171.2.2.2) else (tricklelaw41_ExpiryPut.j0 k (bt171.1 != a0_0) a0_0 a0_1 a0_2 a0_3 a1_0 a1_1 a1_2 bt171.1 bt171.2.1 bt171.2.2.1 bt171.2.2.2)))))))))))) else (tricklelaw41_ExpiryPut.j0 k true a0_0 a0_1 a0_2 a0_3 a1_0 a1_1 a1_2 bt171.1 bt171.2.1 bt171.2.2.1 bt171.2.2.2)))) = some r := H
  have A5 := Aside0.mk A50
  clear A50
  replace H := Option.bind_eq_some_iff.mp H
  obtain ⟨⟨t171, t172, t173, t174⟩, A60, H⟩ := H
  replace H : ((tricklelaw41_examples.f).bind fun t176 => (if t176 = true then ((tricklelaw41_own.f a0_0 a0_1 a0_2 a0_3).bind fun bt177 => ((expiry_Put.f bt177.1 bt177.2.1 bt177.2.2.1 bt177.2.2.2).bind fun bt181 => ((trickleref41_Put.f a0_0 a0_1 a0_2 a0_3).bind fun bt189 => (if (!(bt181.1 == bt189.1) || (!(bt181.2.1 == bt189.2.1) || (!(bt181.2.2.1 == bt189.2.2.1) || (!(bt181.2.2.2.1 == bt189.2.2.2.1) || (!(bt181.2.2.2.2.1 == bt189.2.2.2.2.1) || (!(bt181.2.2.2.2.2.1 == bt189.2.2.2.2.2.1) || (!(bt181.2.2.2.2.2.2.1 == bt189.2.2.2.2.2.2.1) || (!(bt181.2.2.2.2.2.2.2 == bt189.2.2.2.2.2.2.2))))))))) = true then (tricklelaw41_ExpiryPut.j0 k true a0_0 a0_1 a0_2 a0_3 a1_0 a1_1 a1_2 t171 t172 t173 t174) else ((expiry_Get.f a2_0 a2_1 a2_2 a2_3 a2_4 a2_5 a2_6 a2_7).bind fun bt197 => ((trickleref41_Get.f a2_0 a2_1 a2_2 a2_3 a2_4 a2_5 a2_6 a2_7).bind fun bt201 => ((tricklelaw41_own.f bt201.1 bt201.2.1 bt201.2.2.1 bt201.2.2.2).bind fun bt205 => (if (!(bt197.1 == bt205.1) || ((!(bt197.2.1 == bt205.2.1) || (!(bt197.2.2.1 == bt205.2.2.1))) || (!(bt197.2.2.2 == bt205.2.2.2)))) = true then (tricklelaw41_ExpiryPut.j0 k true a0_0 a0_1 a0_2 a0_3 a1_0 a1_1 a1_2 t171 t172 t173 t174) else ((expiry_Get.f a2_0 a2_1 a2_2 a2_3 a2_4 a2_5 a2_6 a2_7).bind fun bt209 => ((expiry_Put.f bt209.1 bt209.2.1 bt209.2.2.1 bt209.2.2.2).bind fun bt213 => (if (!(bt213.1 == a2_0) || (!(bt213.2.1 == a2_1) || (!(bt213.2.2.1 == a2_2) || (!(bt213.2.2.2.1 == a2_3) || (!(bt213.2.2.2.2.1 == a2_4) || (!(bt213.2.2.2.2.2.1 == a2_5) || (!(bt213.2.2.2.2.2.2.1 == a2_6) || (!(bt213.2.2.2.2.2.2.2 == a2_7))))))))) = true then (tricklelaw41_ExpiryPut.j0 k true a0_0 a0_1 a0_2 a0_3 a1_0 a1_1 a1_2 t171 t172 t173 t174) else (tricklelaw41_ExpiryPut.j0 k (t171 != a0_0) a0_0 a0_1 a0_2 a0_3 a1_0 a1_1 a1_2 t171 t172 t173 t174)))))))))))) else (tricklelaw41_ExpiryPut.j0 k true a0_0 a0_1 a0_2 a0_3 a1_0 a1_1 a1_2 t171 t172 t173 t174))) = some r := H
  have A6 := Aside0.mk A60
  clear A60
  have HC7 := Aside0.mk H
  clear H
  go_enter Try.func8, Try.ntmps8
  go_upto_region 2 with (first | ((with_reducible refine gate_dst (N := 3) rfl ?_); refine box_event ?hg (N := 3) ?hd (cs := #[.int .i16 a0_0, .int .i64 a0_1, .int .i64 a0_2, .int .i64 a0_3]) (t := 49) ?hr ?_; (case hd => rfl); (case hg => rfl); (case hr => first | (go_simp; done) | (go_simp; rfl)); intro gb156 hg w8 hbox hb; have n0_ := Aside0.mk (below_step (by repeat (first | (with_reducible first | exact HB.out | apply below_alloc | apply pw_below_drewN | apply below_drew1) | exact HB.out)) hb); have n1_ := Aside0.mk (hbox); have n2_ := Aside0.mk ((by rw [hg]; exact (below_size (by repeat (first | (with_reducible first | exact HB.out | apply below_alloc | apply pw_below_drewN | apply below_drew1) | exact HB.out))) : w.heap.size ≤ gb156)); have n3_ := Aside0.mk ((by rw [hg]; exact (below_size (by repeat (first | (with_reducible first | exact HB.out | apply below_alloc | apply pw_below_drewN | apply below_drew1) | exact HB.out))) : w.heap.size ≤ gb156)); clear HB; have HB := n0_; have BK156 := n1_; have GW156 := n2_; have GE156 := n3_; clear n0_ n1_ n2_ n3_; clear hb hbox hg) | ((with_reducible refine gate_dst (N := 4) rfl ?_); refine box_event ?hg (N := 4) ?hd (cs := #[.int .i64 a1_0, .int .i64 a1_1, .int .i64 a1_2]) (t := 50) ?hr ?_; (case hd => rfl); (case hg => rfl); (case hr => first | (go_simp; done) | (go_simp; rfl)); intro gb157 hg w9 hbox hb; have n0_ := Aside0.mk (blk_below (g := gb156) (o := .cells #[.int .i16 a0_0, .int .i64 a0_1, .int .i64 a0_2, .int .i64 a0_3] 49 (0, 0)) (by (with_reducible repeat (first | refine blk_drewN ?_ _ | refine blk_drew ?_ | refine blk_alloc ?_ _)); exact BK156.out) hb); have n1_ := Aside0.mk (below_step (by repeat (first | (with_reducible first | exact HB.out | apply below_alloc | apply pw_below_drewN | apply below_drew1 | refine below_set ?_ GE156.out) | exact HB.out)) hb); have n2_ := Aside0.mk (hbox); have n3_ := Aside0.mk ((by rw [hg]; exact (below_size (by repeat (first | (with_reducible first | exact HB.out | apply below_alloc | apply pw_below_drewN | apply below_drew1 | refine below_set ?_ GE156.out) | exact HB.out))) : w.heap.size ≤ gb157)); have n4_ := Aside0.mk ((by rw [hg]; exact (below_size (by repeat (first | (with_reducible first | exact HB.out | apply below_alloc | apply pw_below_drewN | apply below_drew1 | refine below_set ?_ GE156.out) | exact HB.out))) : w.heap.size ≤ gb157)); have n5_ := Aside0.mk ((by rw [hg]; exact Nat.ne_of_lt (blk_lt (g := gb156) (o := .cells #[.int .i16 a0_0, .int .i64 a0_1, .int .i64 a0_2, .int .i64 a0_3] 49 (0, 0)) (by (with_reducible repeat (first | refine blk_drewN ?_ _ | refine blk_drew ?_ | refine blk_alloc ?_ _)); exact BK156.out)) : gb156 ≠ gb157)); have n6_ := Aside0.mk ((by rw [hg]; exact Nat.ne_of_gt (blk_lt (g := gb156) (o := .cells #[.int .i16 a0_0, .int .i64 a0_1, .int .i64 a0_2, .int .i64 a0_3] 49 (0, 0)) (by (with_reducible repeat (first | refine blk_drewN ?_ _ | refine blk_drew ?_ | refine blk_alloc ?_ _)); exact BK156.out)) : gb157 ≠ gb156)); clear BK156; clear HB; have BK156 := n0_; have HB := n1_; have BK157 := n2_; have GW157 := n3_; have GE157 := n4_; have NB156_157 := n5_; have NB157_156 := n6_; clear n0_ n1_ n2_ n3_ n4_ n5_ n6_; clear hb hbox hg) | ((with_reducible refine gate_dst (N := 5) rfl ?_); refine box_event ?hg (N := 5) ?hd (cs := #[.int .u8 a2_0, .int .u8 a2_1, .int .u8 a2_2, .int .u8 a2_3, .int .u8 a2_4, .int .u8 a2_5, .int .u8 a2_6, .int .u8 a2_7]) (t := 71) ?hr ?_; (case hd => rfl); (case hg => rfl); (case hr => first | (go_simp; done) | (go_simp; rfl)); intro gb158 hg w10 hbox hb; have n0_ := Aside0.mk (blk_below (g := gb156) (o := .cells #[.int .i16 a0_0, .int .i64 a0_1, .int .i64 a0_2, .int .i64 a0_3] 49 (0, 0)) (by (with_reducible repeat (first | refine blk_drewN ?_ _ | refine blk_drew ?_ | refine blk_alloc ?_ _)); exact BK156.out) hb); have n1_ := Aside0.mk (blk_below (g := gb157) (o := .cells #[.int .i64 a1_0, .int .i64 a1_1, .int .i64 a1_2] 50 (0, 0)) (by (with_reducible repeat (first | refine blk_drewN ?_ _ | refine blk_drew ?_ | refine blk_alloc ?_ _)); exact BK157.out) hb); have n2_ := Aside0.mk (below_step (by repeat (first | (with_reducible first | exact HB.out | apply below_alloc | apply pw_below_drewN | apply below_drew1 | refine below_set ?_ GE156.out | refine below_set ?_ GE157.out) | exact HB.out)) hb); have n3_ := Aside0.mk (hbox); have n4_ := Aside0.mk ((by rw [hg]; exact (below_size (by repeat (first | (with_reducible first | exact HB.out | apply below_alloc | apply pw_below_drewN | apply below_drew1 | refine below_set ?_ GE156.out | refine below_set ?_ GE157.out) | exact HB.out))) : w.heap.size ≤ gb158)); have n5_ := Aside0.mk ((by rw [hg]; exact (below_size (by repeat (first | (with_reducible first | exact HB.out | apply below_alloc | apply pw_below_drewN | apply below_drew1 | refine below_set ?_ GE156.out | refine below_set ?_ GE157.out) | exact HB.out))) : w.heap.size ≤ gb158)); have n6_ := Aside0.mk ((by rw [hg]; exact Nat.ne_of_lt (blk_lt (g := gb156) (o := .cells #[.int .i16 a0_0, .int .i64 a0_1, .int .i64 a0_2, .int .i64 a0_3] 49 (0, 0)) (by (with_reducible repeat (first | refine blk_drewN ?_ _ | refine blk_drew ?_ | refine blk_alloc ?_ _)); exact BK156.out)) : gb156 ≠ gb158)); have n7_ := Aside0.mk ((by rw [hg]; exact Nat.ne_of_gt (blk_lt (g := gb156) (o := .cells #[.int .i16 a0_0, .int .i64 a0_1, .int .i64 a0_2, .int .i64 a0_3] 49 (0, 0)) (by (with_reducible repeat (first | refine blk_drewN ?_ _ | refine blk_drew ?_ | refine blk_alloc ?_ _)); exact BK156.out)) : gb158 ≠ gb156)); have n8_ := Aside0.mk ((by rw [hg]; exact Nat.ne_of_lt (blk_lt (g := gb157) (o := .cells #[.int .i64 a1_0, .int .i64 a1_1, .int .i64 a1_2] 50 (0, 0)) (by (with_reducible repeat (first | refine blk_drewN ?_ _ | refine blk_drew ?_ | refine blk_alloc ?_ _)); exact BK157.out)) : gb157 ≠ gb158)); have n9_ := Aside0.mk ((by rw [hg]; exact Nat.ne_of_gt (blk_lt (g := gb157) (o := .cells #[.int .i64 a1_0, .int .i64 a1_1, .int .i64 a1_2] 50 (0, 0)) (by (with_reducible repeat (first | refine blk_drewN ?_ _ | refine blk_drew ?_ | refine blk_alloc ?_ _)); exact BK157.out)) : gb158 ≠ gb157)); clear BK156; clear BK157; clear HB; have BK156 := n0_; have BK157 := n1_; have HB := n2_; have BK158 := n3_; have GW158 := n4_; have GE158 := n5_; have NB156_158 := n6_; have NB158_156 := n7_; have NB157_158 := n8_; have NB158_157 := n9_; clear n0_ n1_ n2_ n3_ n4_ n5_ n6_ n7_ n8_ n9_; clear hb hbox hg; have hnb11 := NB156_157.out; have hnc11 := NB157_156.out; have hnb12 := NB156_158.out; have hnc12 := NB158_156.out; have hcz13_0 : w10.cell? ⟨gb156, 0, none⟩ = some (.int .i16 a0_0) := (blk_cell BK156.out 0).trans rfl; have hcz13_1 : w10.cell? ⟨gb156, 1, none⟩ = some (.int .i64 a0_1) := (blk_cell BK156.out 1).trans rfl; have hcz13_2 : w10.cell? ⟨gb156, 2, none⟩ = some (.int .i64 a0_2) := (blk_cell BK156.out 2).trans rfl; have hcz13_3 : w10.cell? ⟨gb156, 3, none⟩ = some (.int .i64 a0_3) := (blk_cell BK156.out 3).trans rfl; have hfz13_0 := blk_frozen BK156.out 0; have hfz13_1 := blk_frozen BK156.out 1; have hfz13_2 := blk_frozen BK156.out 2; have hfz13_3 := blk_frozen BK156.out 3) | ((with_reducible refine gate_callee (f := 19) rfl ?_); refine goesL_ (some 9) rfl rfl Try.func19 (by kernel_rfl) rfl #[.agg #[.int .i16 a0_0, .int .i64 a0_1, .int .i64 a0_2, .int .i64 a0_3]] rfl (by (try simp only [List.map_toArray, List.map_cons, List.map_nil]); first | done | rfl | (simp only [List.length_drop, List.length_take]; rfl)) ?_; (with_reducible refine (tricklelaw41_own.calls a0_0 a0_1 a0_2 a0_3 t159 t160 t161 t162 _ A4.out).mono ?_); rintro e w14 ⟨rfl, hb⟩; refine ⟨_, rfl, ?_⟩; have n0_ := Aside0.mk (blk_below (g := gb156) (o := .cells #[.int .i16 a0_0, .int .i64 a0_1, .int .i64 a0_2, .int .i64 a0_3] 49 (0, 0)) (by (with_reducible repeat (first | refine blk_drewN ?_ _ | refine blk_drew ?_ | refine blk_alloc ?_ _)); exact BK156.out) hb); have n1_ := Aside0.mk (blk_below (g := gb157) (o := .cells #[.int .i64 a1_0, .int .i64 a1_1, .int .i64 a1_2] 50 (0, 0)) (by (with_reducible repeat (first | refine blk_drewN ?_ _ | refine blk_drew ?_ | refine blk_alloc ?_ _)); exact BK157.out) hb); have n2_ := Aside0.mk (blk_below (g := gb158) (o := .cells #[.int .u8 a2_0, .int .u8 a2_1, .int .u8 a2_2, .int .u8 a2_3, .int .u8 a2_4, .int .u8 a2_5, .int .u8 a2_6, .int .u8 a2_7] 71 (0, 0)) (by (with_reducible repeat (first | refine blk_drewN ?_ _ | refine blk_drew ?_ | refine blk_alloc ?_ _)); exact BK158.out) hb); have n3_ := Aside0.mk (below_step (by repeat (first | (with_reducible first | exact HB.out | apply below_alloc | apply pw_below_drewN | apply below_drew1 | refine below_set ?_ GE156.out | refine below_set ?_ GE157.out | refine below_set ?_ GE158.out) | exact HB.out)) hb); clear BK156; clear BK157; clear BK158; clear HB; have BK156 := n0_; have BK157 := n1_; have BK158 := n2_; have HB := n3_; clear n0_ n1_ n2_ n3_; (try clear hb); (try clear hb2); (try clear hk); (try clear hi)) | ((with_reducible refine gate_callee (f := 33) rfl ?_); refine goesL_ (some 10) rfl rfl Try.func33 (by kernel_rfl) rfl #[.agg #[.int .i16 t159, .int .i64 t160, .int .i64 t161, .int .i64 t162]] rfl (by (try simp only [List.map_toArray, List.map_cons, List.map_nil]); first | done | rfl | (simp only [List.length_drop, List.length_take]; rfl)) ?_; (with_reducible refine (expiry_Put.calls t159 t160 t161 t162 t163 t164 t165 t166 t167 t168 t169 t170 _ A5.out).mono ?_); rintro e w15 ⟨rfl, hb⟩; refine ⟨_, rfl, ?_⟩; have n0_ := Aside0.mk (blk_below (g := gb156) (o := .cells #[.int .i16 a0_0, .int .i64 a0_1, .int .i64 a0_2, .int .i64 a0_3] 49 (0, 0)) (by (with_reducible repeat (first | refine blk_drewN ?_ _ | refine blk_drew ?_ | refine blk_alloc ?_ _)); exact BK156.out) hb); have n1_ := Aside0.mk (blk_below (g := gb157) (o := .cells #[.int .i64 a1_0, .int .i64 a1_1, .int .i64 a1_2] 50 (0, 0)) (by (with_reducible repeat (first | refine blk_drewN ?_ _ | refine blk_drew ?_ | refine blk_alloc ?_ _)); exact BK157.out) hb); have n2_ := Aside0.mk (blk_below (g := gb158) (o := .cells #[.int .u8 a2_0, .int .u8 a2_1, .int .u8 a2_2, .int .u8 a2_3, .int .u8 a2_4, .int .u8 a2_5, .int .u8 a2_6, .int .u8 a2_7] 71 (0, 0)) (by (with_reducible repeat (first | refine blk_drewN ?_ _ | refine blk_drew ?_ | refine blk_alloc ?_ _)); exact BK158.out) hb); have n3_ := Aside0.mk (below_step (by repeat (first | (with_reducible first | exact HB.out | apply below_alloc | apply pw_below_drewN | apply below_drew1 | refine below_set ?_ GE156.out | refine below_set ?_ GE157.out | refine below_set ?_ GE158.out) | exact HB.out)) hb); clear BK156; clear BK157; clear BK158; clear HB; have BK156 := n0_; have BK157 := n1_; have BK158 := n2_; have HB := n3_; clear n0_ n1_ n2_ n3_; (try clear hb); (try clear hb2); (try clear hk); (try clear hi)) | ((with_reducible refine gate_callee (f := 32) rfl ?_); refine goesL_ (some 11) rfl rfl Try.func32 (by kernel_rfl) rfl #[.agg #[.int .u8 t163, .int .u8 t164, .int .u8 t165, .int .u8 t166, .int .u8 t167, .int .u8 t168, .int .u8 t169, .int .u8 t170]] rfl (by (try simp only [List.map_toArray, List.map_cons, List.map_nil]); first | done | rfl | (simp only [List.length_drop, List.length_take]; rfl)) ?_; (with_reducible refine (expiry_Get.calls t163 t164 t165 t166 t167 t168 t169 t170 t171 t172 t173 t174 _ A6.out).mono ?_); rintro e w16 ⟨rfl, hb⟩; refine ⟨_, rfl, ?_⟩; have n0_ := Aside0.mk (blk_below (g := gb156) (o := .cells #[.int .i16 a0_0, .int .i64 a0_1, .int .i64 a0_2, .int .i64 a0_3] 49 (0, 0)) (by (with_reducible repeat (first | refine blk_drewN ?_ _ | refine blk_drew ?_ | refine blk_alloc ?_ _)); exact BK156.out) hb); have n1_ := Aside0.mk (blk_below (g := gb157) (o := .cells #[.int .i64 a1_0, .int .i64 a1_1, .int .i64 a1_2] 50 (0, 0)) (by (with_reducible repeat (first | refine blk_drewN ?_ _ | refine blk_drew ?_ | refine blk_alloc ?_ _)); exact BK157.out) hb); have n2_ := Aside0.mk (blk_below (g := gb158) (o := .cells #[.int .u8 a2_0, .int .u8 a2_1, .int .u8 a2_2, .int .u8 a2_3, .int .u8 a2_4, .int .u8 a2_5, .int .u8 a2_6, .int .u8 a2_7] 71 (0, 0)) (by (with_reducible repeat (first | refine blk_drewN ?_ _ | refine blk_drew ?_ | refine blk_alloc ?_ _)); exact BK158.out) hb); have n3_ := Aside0.mk (below_step (by repeat (first | (with_reducible first | exact HB.out | apply below_alloc | apply pw_below_drewN | apply below_drew1 | refine below_set ?_ GE156.out | refine below_set ?_ GE157.out | refine below_set ?_ GE158.out) | exact HB.out)) hb); clear BK156; clear BK157; clear BK158; clear HB; have BK156 := n0_; have BK157 := n1_; have BK158 := n2_; have HB := n3_; clear n0_ n1_ n2_ n3_; (try clear hb); (try clear hb2); (try clear hk); (try clear hi)) | ((with_reducible refine gate_dst (N := 7) rfl ?_); refine box_event ?hg (N := 7) ?hd (cs := #[.int .i16 0, .int .i64 0, .int .i64 0, .int .i64 0]) (t := 46) ?hr ?_; (case hd => rfl); (case hg => rfl); (case hr => first | (go_simp; done) | (go_simp; rfl)); intro gb175 hg w17 hbox hb; have n0_ := Aside0.mk (blk_below (g := gb156) (o := .cells #[.int .i16 a0_0, .int .i64 a0_1, .int .i64 a0_2, .int .i64 a0_3] 49 (0, 0)) (by (with_reducible repeat (first | refine blk_drewN ?_ _ | refine blk_drew ?_ | refine blk_alloc ?_ _)); exact BK156.out) hb); have n1_ := Aside0.mk (blk_below (g := gb157) (o := .cells #[.int .i64 a1_0, .int .i64 a1_1, .int .i64 a1_2] 50 (0, 0)) (by (with_reducible repeat (first | refine blk_drewN ?_ _ | refine blk_drew ?_ | refine blk_alloc ?_ _)); exact BK157.out) hb); have n2_ := Aside0.mk (blk_below (g := gb158) (o := .cells #[.int .u8 a2_0, .int .u8 a2_1, .int .u8 a2_2, .int .u8 a2_3, .int .u8 a2_4, .int .u8 a2_5, .int .u8 a2_6, .int .u8 a2_7] 71 (0, 0)) (by (with_reducible repeat (first | refine blk_drewN ?_ _ | refine blk_drew ?_ | refine blk_alloc ?_ _)); exact BK158.out) hb); have n3_ := Aside0.mk (below_step (by repeat (first | (with_reducible first | exact HB.out | apply below_alloc | apply pw_below_drewN | apply below_drew1 | refine below_set ?_ GE156.out | refine below_set ?_ GE157.out | refine below_set ?_ GE158.out) | exact HB.out)) hb); have n4_ := Aside0.mk (hbox); have n5_ := Aside0.mk ((by rw [hg]; exact (below_size (by repeat (first | (with_reducible first | exact HB.out | apply below_alloc | apply pw_below_drewN | apply below_drew1 | refine below_set ?_ GE156.out | refine below_set ?_ GE157.out | refine below_set ?_ GE158.out) | exact HB.out))) : w.heap.size ≤ gb175)); have n6_ := Aside0.mk ((by rw [hg]; exact (below_size (by repeat (first | (with_reducible first | exact HB.out | apply below_alloc | apply pw_below_drewN | apply below_drew1 | refine below_set ?_ GE156.out | refine below_set ?_ GE157.out | refine below_set ?_ GE158.out) | exact HB.out))) : w.heap.size ≤ gb175)); have n7_ := Aside0.mk ((by rw [hg]; exact Nat.ne_of_lt (blk_lt (g := gb156) (o := .cells #[.int .i16 a0_0, .int .i64 a0_1, .int .i64 a0_2, .int .i64 a0_3] 49 (0, 0)) (by (with_reducible repeat (first | refine blk_drewN ?_ _ | refine blk_drew ?_ | refine blk_alloc ?_ _)); exact BK156.out)) : gb156 ≠ gb175)); have n8_ := Aside0.mk ((by rw [hg]; exact Nat.ne_of_gt (blk_lt (g := gb156) (o := .cells #[.int .i16 a0_0, .int .i64 a0_1, .int .i64 a0_2, .int .i64 a0_3] 49 (0, 0)) (by (with_reducible repeat (first | refine blk_drewN ?_ _ | refine blk_drew ?_ | refine blk_alloc ?_ _)); exact BK156.out)) : gb175 ≠ gb156)); have n9_ := Aside0.mk ((by rw [hg]; exact Nat.ne_of_lt (blk_lt (g := gb157) (o := .cells #[.int .i64 a1_0, .int .i64 a1_1, .int .i64 a1_2] 50 (0, 0)) (by (with_reducible repeat (first | refine blk_drewN ?_ _ | refine blk_drew ?_ | refine blk_alloc ?_ _)); exact BK157.out)) : gb157 ≠ gb175)); have n10_ := Aside0.mk ((by rw [hg]; exact Nat.ne_of_gt (blk_lt (g := gb157) (o := .cells #[.int .i64 a1_0, .int .i64 a1_1, .int .i64 a1_2] 50 (0, 0)) (by (with_reducible repeat (first | refine blk_drewN ?_ _ | refine blk_drew ?_ | refine blk_alloc ?_ _)); exact BK157.out)) : gb175 ≠ gb157)); have n11_ := Aside0.mk ((by rw [hg]; exact Nat.ne_of_lt (blk_lt (g := gb158) (o := .cells #[.int .u8 a2_0, .int .u8 a2_1, .int .u8 a2_2, .int .u8 a2_3, .int .u8 a2_4, .int .u8 a2_5, .int .u8 a2_6, .int .u8 a2_7] 71 (0, 0)) (by (with_reducible repeat (first | refine blk_drewN ?_ _ | refine blk_drew ?_ | refine blk_alloc ?_ _)); exact BK158.out)) : gb158 ≠ gb175)); have n12_ := Aside0.mk ((by rw [hg]; exact Nat.ne_of_gt (blk_lt (g := gb158) (o := .cells #[.int .u8 a2_0, .int .u8 a2_1, .int .u8 a2_2, .int .u8 a2_3, .int .u8 a2_4, .int .u8 a2_5, .int .u8 a2_6, .int .u8 a2_7] 71 (0, 0)) (by (with_reducible repeat (first | refine blk_drewN ?_ _ | refine blk_drew ?_ | refine blk_alloc ?_ _)); exact BK158.out)) : gb175 ≠ gb158)); clear BK156; clear BK157; clear BK158; clear HB; have BK156 := n0_; have BK157 := n1_; have BK158 := n2_; have HB := n3_; have BK175 := n4_; have GW175 := n5_; have GE175 := n6_; have NB156_175 := n7_; have NB175_156 := n8_; have NB157_175 := n9_; have NB175_157 := n10_; have NB158_175 := n11_; have NB175_158 := n12_; clear n0_ n1_ n2_ n3_ n4_ n5_ n6_ n7_ n8_ n9_ n10_ n11_ n12_; clear hb hbox hg; have hnb18 := NB175_156.out; have hnc18 := NB156_175.out; have hnb19 := NB175_157.out; have hnc19 := NB157_175.out; have hnb20 := NB175_158.out; have hnc20 := NB158_175.out; have hcz21_0 : w17.cell? ⟨gb175, 0, none⟩ = some (.int .i16 0) := (blk_cell BK175.out 0).trans rfl; have hcz21_1 : w17.cell? ⟨gb175, 1, none⟩ = some (.int .i64 0) := (blk_cell BK175.out 1).trans rfl; have hcz21_2 : w17.cell? ⟨gb175, 2, none⟩ = some (.int .i64 0) := (blk_cell BK175.out 2).trans rfl; have hcz21_3 : w17.cell? ⟨gb175, 3, none⟩ = some (.int .i64 0) := (blk_cell BK175.out 3).trans rfl; have hfz21_0 := blk_frozen BK175.out 0; have hfz21_1 := blk_frozen BK175.out 1; have hfz21_2 := blk_frozen BK175.out 2; have hfz21_3 := blk_frozen BK175.out 3))
  (try simp only [Act.put, List.setIfInBounds_toArray, List.set_cons_zero, List.set_cons_succ])
  go_cut [43] (fun v43 wc => ∃ (kq : Nat) (x43_6 : Bool), v43 = .bool x43_6 ∧ Aside0 (tricklelaw41_ExpiryPut.j0 kq x43_6 a0_0 a0_1 a0_2 a0_3 a1_0 a1_1 a1_2 t171 t172 t173 t174 = some r) ∧ Aside0 (kq ≤ k) ∧ Aside0 (wc.heap[gb156]? = some (.cells #[.int .i16 a0_0, .int .i64 a0_1, .int .i64 a0_2, .int .i64 a0_3] 49 (0, 0))) ∧ Aside0 (wc.heap[gb157]? = some (.cells #[.int .i64 a1_0, .int .i64 a1_1, .int .i64 a1_2] 50 (0, 0))) ∧ Aside0 (wc.heap[gb158]? = some (.cells #[.int .u8 a2_0, .int .u8 a2_1, .int .u8 a2_2, .int .u8 a2_3, .int .u8 a2_4, .int .u8 a2_5, .int .u8 a2_6, .int .u8 a2_7] 71 (0, 0))) ∧ Aside0 (wc.heap[gb175]? = some (.cells #[.int .i16 t171, .int .i64 t172, .int .i64 t173, .int .i64 t174] 46 (0, 0))) ∧ Aside0 (Below w.heap.size w wc))
  case first =>
    have H := HC7.out
    clear HC7
    replace H := Option.bind_eq_some_iff.mp H
    obtain ⟨t176, A220, H⟩ := H
    replace H : (if t176 = true then ((tricklelaw41_own.f a0_0 a0_1 a0_2 a0_3).bind fun bt177 => ((expiry_Put.f bt177.1 bt177.2.1 bt177.2.2.1 bt177.2.2.2).bind fun bt181 => ((trickleref41_Put.f a0_0 a0_1 a0_2 a0_3).bind fun bt189 => (if (!(bt181.1 == bt189.1) || (!(bt181.2.1 == bt189.2.1) || (!(bt181.2.2.1 == bt189.2.2.1) || (!(bt181.2.2.2.1 == bt189.2.2.2.1) || (!(bt181.2.2.2.2.1 == bt189.2.2.2.2.1) || (!(bt181.2.2.2.2.2.1 == bt189.2.2.2.2.2.1) || (!(bt181.2.2.2.2.2.2.1 == bt189.2.2.2.2.2.2.1) || (!(bt181.2.2.2.2.2.2.2 == bt189.2.2.2.2.2.2.2))))))))) = true then (tricklelaw41_ExpiryPut.j0 k true a0_0 a0_1 a0_2 a0_3 a1_0 a1_1 a1_2 t171 t172 t173 t174) else ((expiry_Get.f a2_0 a2_1 a2_2 a2_3 a2_4 a2_5 a2_6 a2_7).bind fun bt197 => ((trickleref41_Get.f a2_0 a2_1 a2_2 a2_3 a2_4 a2_5 a2_6 a2_7).bind fun bt201 => ((tricklelaw41_own.f bt201.1 bt201.2.1 bt201.2.2.1 bt201.2.2.2).bind fun bt205 => (if (!(bt197.1 == bt205.1) || ((!(bt197.2.1 == bt205.2.1) || (!(bt197.2.2.1 == bt205.2.2.1))) || (!(bt197.2.2.2 == bt205.2.2.2)))) = true then (tricklelaw41_ExpiryPut.j0 k true a0_0 a0_1 a0_2 a0_3 a1_0 a1_1 a1_2 t171 t172 t173 t174) else ((expiry_Get.f a2_0 a2_1 a2_2 a2_3 a2_4 a2_5 a2_6 a2_7).bind fun bt209 => ((expiry_Put.f bt209.1 bt209.2.1 bt209.2.2.1 bt209.2.2.2).bind fun bt213 => (if (!(bt213.1 == a2_0) || (!(bt213.2.1 == a2_1) || (!(bt213.2.2.1 == a2_2) || (!(bt213.2.2.2.1 == a2_3) || (!(bt213.2.2.2.2.1 == a2_4) || (!(bt213.2.2.2.2.2.1 == a2_5) || (!(bt213.2.2.2.2.2.2.1 == a2_6) || (!(bt213.2.2.2.2.2.2.2 == a2_7))))))))) = true then (tricklelaw41_ExpiryPut.j0 k true a0_0 a0_1 a0_2 a0_3 a1_0 a1_1 a1_2 t171 t172 t173 t174) else (tricklelaw41_ExpiryPut.j0 k (t171 != a0_0) a0_0 a0_1 a0_2 a0_3 a1_0 a1_1 a1_2 t171 t172 t173 t174)))))))))))) else (tricklelaw41_ExpiryPut.j0 k true a0_0 a0_1 a0_2 a0_3 a1_0 a1_1 a1_2 t171 t172 t173 t174)) = some r := H
    have A22 := Aside0.mk A220
    clear A220
    have c23 : t176 = true := (Option.some.inj A22.out).symm
    subst c23
    have H1 : ((tricklelaw41_own.f a0_0 a0_1 a0_2 a0_3).bind fun bt177 => ((expiry_Put.f bt177.1 bt177.2.1 bt177.2.2.1 bt177.2.2.2).bind fun bt181 => ((trickleref41_Put.f a0_0 a0_1 a0_2 a0_3).bind fun bt189 => (if (!(bt181.1 == bt189.1) || (!(bt181.2.1 == bt189.2.1) || (!(bt181.2.2.1 == bt189.2.2.1) || (!(bt181.2.2.2.1 == bt189.2.2.2.1) || (!(bt181.2.2.2.2.1 == bt189.2.2.2.2.1) || (!(bt181.2.2.2.2.2.1 == bt189.2.2.2.2.2.1) || (!(bt181.2.2.2.2.2.2.1 == bt189.2.2.2.2.2.2.1) || (!(bt181.2.2.2.2.2.2.2 == bt189.2.2.2.2.2.2.2))))))))) = true then (tricklelaw41_ExpiryPut.j0 k true a0_0 a0_1 a0_2 a0_3 a1_0 a1_1 a1_2 t171 t172 t173 t174) else ((expiry_Get.f a2_0 a2_1 a2_2 a2_3 a2_4 a2_5 a2_6 a2_7).bind fun bt197 => ((trickleref41_Get.f a2_0 a2_1 a2_2 a2_3 a2_4 a2_5 a2_6 a2_7).bind fun bt201 => ((tricklelaw41_own.f bt201.1 bt201.2.1 bt201.2.2.1 bt201.2.2.2).bind fun bt205 => (if (!(bt197.1 == bt205.1) || ((!(bt197.2.1 == bt205.2.1) || (!(bt197.2.2.1 == bt205.2.2.1))) || (!(bt197.2.2.2 == bt205.2.2.2)))) = true then (tricklelaw41_ExpiryPut.j0 k true a0_0 a0_1 a0_2 a0_3 a1_0 a1_1 a1_2 t171 t172 t173 t174) else ((expiry_Get.f a2_0 a2_1 a2_2 a2_3 a2_4 a2_5 a2_6 a2_7).bind fun bt209 => ((expiry_Put.f bt209.1 bt209.2.1 bt209.2.2.1 bt209.2.2.2).bind fun bt213 => (if (!(bt213.1 == a2_0) || (!(bt213.2.1 == a2_1) || (!(bt213.2.2.1 == a2_2) || (!(bt213.2.2.2.1 == a2_3) || (!(bt213.2.2.2.2.1 == a2_4) || (!(bt213.2.2.2.2.2.1 == a2_5) || (!(bt213.2.2.2.2.2.2.1 == a2_6) || (!(bt213.2.2.2.2.2.2.2 == a2_7))))))))) = true then (tricklelaw41_ExpiryPut.j0 k true a0_0 a0_1 a0_2 a0_3 a1_0 a1_1 a1_2 t171 t172 t173 t174) else (tricklelaw41_ExpiryPut.j0 k (t171 != a0_0) a0_0 a0_1 a0_2 a0_3 a1_0 a1_1 a1_2 t171 t172 t173 t174)))))))))))) = some r := by rw [if_pos rfl] at H; exact H
    clear H
    have H := H1
    clear H1
    replace H := Option.bind_eq_some_iff.mp H
    obtain ⟨⟨t177, t178, t179, t180⟩, A240, H⟩ := H
    replace H : ((expiry_Put.f t177 t178 t179 t180).bind fun bt181 => ((trickleref41_Put.f a0_0 a0_1 a0_2 a0_3).bind fun bt189 => (if (!(bt181.1 == bt189.1) || (!(bt181.2.1 == bt189.2.1) || (!(bt181.2.2.1 == bt189.2.2.1) || (!(bt181.2.2.2.1 == bt189.2.2.2.1) || (!(bt181.2.2.2.2.1 == bt189.2.2.2.2.1) || (!(bt181.2.2.2.2.2.1 == bt189.2.2.2.2.2.1) || (!(bt181.2.2.2.2.2.2.1 == bt189.2.2.2.2.2.2.1) || (!(bt181.2.2.2.2.2.2.2 == bt189.2.2.2.2.2.2.2))))))))) = true then (tricklelaw41_ExpiryPut.j0 k true a0_0 a0_1 a0_2 a0_3 a1_0 a1_1 a1_2 t171 t172 t173 t174) else ((expiry_Get.f a2_0 a2_1 a2_2 a2_3 a2_4 a2_5 a2_6 a2_7).bind fun bt197 => ((trickleref41_Get.f a2_0 a2_1 a2_2 a2_3 a2_4 a2_5 a2_6 a2_7).bind fun bt201 => ((tricklelaw41_own.f bt201.1 bt201.2.1 bt201.2.2.1 bt201.2.2.2).bind fun bt205 => (if (!(bt197.1 == bt205.1) || ((!(bt197.2.1 == bt205.2.1) || (!(bt197.2.2.1 == bt205.2.2.1))) || (!(bt197.2.2.2 == bt205.2.2.2)))) = true then (tricklelaw41_ExpiryPut.j0 k true a0_0 a0_1 a0_2 a0_3 a1_0 a1_1 a1_2 t171 t172 t173 t174) else ((expiry_Get.f a2_0 a2_1 a2_2 a2_3 a2_4 a2_5 a2_6 a2_7).bind fun bt209 => ((expiry_Put.f bt209.1 bt209.2.1 bt209.2.2.1 bt209.2.2.2).bind fun bt213 => (if (!(bt213.1 == a2_0) || (!(bt213.2.1 == a2_1) || (!(bt213.2.2.1 == a2_2) || (!(bt213.2.2.2.1 == a2_3) || (!(bt213.2.2.2.2.1 == a2_4) || (!(bt213.2.2.2.2.2.1 == a2_5) || (!(bt213.2.2.2.2.2.2.1 == a2_6) || (!(bt213.2.2.2.2.2.2.2 == a2_7))))))))) = true then (tricklelaw41_ExpiryPut.j0 k true a0_0 a0_1 a0_2 a0_3 a1_0 a1_1 a1_2 t171 t172 t173 t174) else (tricklelaw41_ExpiryPut.j0 k (t171 != a0_0) a0_0 a0_1 a0_2 a0_3 a1_0 a1_1 a1_2 t171 t172 t173 t174))))))))))) = some r := H
    have A24 := Aside0.mk A240
    clear A240
    replace H := Option.bind_eq_some_iff.mp H
    obtain ⟨⟨t181, t182, t183, t184, t185, t186, t187, t188⟩, A250, H⟩ := H
    replace H : ((trickleref41_Put.f a0_0 a0_1 a0_2 a0_3).bind fun bt189 => (if (!(t181 == bt189.1) || (!(t182 == bt189.2.1) || (!(t183 == bt189.2.2.1) || (!(t184 == bt189.2.2.2.1) || (!(t185 == bt189.2.2.2.2.1) || (!(t186 == bt189.2.2.2.2.2.1) || (!(t187 == bt189.2.2.2.2.2.2.1) || (!(t188 == bt189.2.2.2.2.2.2.2))))))))) = true then (tricklelaw41_ExpiryPut.j0 k true a0_0 a0_1 a0_2 a0_3 a1_0 a1_1 a1_2 t171 t172 t173 t174) else ((expiry_Get.f a2_0 a2_1 a2_2 a2_3 a2_4 a2_5 a2_6 a2_7).bind fun bt197 => ((trickleref41_Get.f a2_0 a2_1 a2_2 a2_3 a2_4 a2_5 a2_6 a2_7).bind fun bt201 => ((tricklelaw41_own.f bt201.1 bt201.2.1 bt201.2.2.1 bt201.2.2.2).bind fun bt205 => (if (!(bt197.1 == bt205.1) || ((!(bt197.2.1 == bt205.2.1) || (!(bt197.2.2.1 == bt205.2.2.1))) || (!(bt197.2.2.2 == bt205.2.2.2)))) = true then (tricklelaw41_ExpiryPut.j0 k true a0_0 a0_1 a0_2 a0_3 a1_0 a1_1 a1_2 t171 t172 t173 t174) else ((expiry_Get.f a2_0 a2_1 a2_2 a2_3 a2_4 a2_5 a2_6 a2_7).bind fun bt209 => ((expiry_Put.f bt209.1 bt209.2.1 bt209.2.2.1 bt209.2.2.2).bind fun bt213 => (if (!(bt213.1 == a2_0) || (!(bt213.2.1 == a2_1) || (!(bt213.2.2.1 == a2_2) || (!(bt213.2.2.2.1 == a2_3) || (!(bt213.2.2.2.2.1 == a2_4) || (!(bt213.2.2.2.2.2.1 == a2_5) || (!(bt213.2.2.2.2.2.2.1 == a2_6) || (!(bt213.2.2.2.2.2.2.2 == a2_7))))))))) = true then (tricklelaw41_ExpiryPut.j0 k true a0_0 a0_1 a0_2 a0_3 a1_0 a1_1 a1_2 t171 t172 t173 t174) else (tricklelaw41_ExpiryPut.j0 k (t171 != a0_0) a0_0 a0_1 a0_2 a0_3 a1_0 a1_1 a1_2 t171 t172 t173 t174)))))))))) = some r := H
    have A25 := Aside0.mk A250
    clear A250
    replace H := Option.bind_eq_some_iff.mp H
    obtain ⟨⟨t189, t190, t191, t192, t193, t194, t195, t196⟩, A260, H⟩ := H
    replace H : (if (!(t181 == t189) || (!(t182 == t190) || (!(t183 == t191) || (!(t184 == t192) || (!(t185 == t193) || (!(t186 == t194) || (!(t187 == t195) || (!(t188 == t196))))))))) = true then (tricklelaw41_ExpiryPut.j0 k true a0_0 a0_1 a0_2 a0_3 a1_0 a1_1 a1_2 t171 t172 t173 t174) else ((expiry_Get.f a2_0 a2_1 a2_2 a2_3 a2_4 a2_5 a2_6 a2_7).bind fun bt197 => ((trickleref41_Get.f a2_0 a2_1 a2_2 a2_3 a2_4 a2_5 a2_6 a2_7).bind fun bt201 => ((tricklelaw41_own.f bt201.1 bt201.2.1 bt201.2.2.1 bt201.2.2.2).bind fun bt205 => (if (!(bt197.1 == bt205.1) || ((!(bt197.2.1 == bt205.2.1) || (!(bt197.2.2.1 == bt205.2.2.1))) || (!(bt197.2.2.2 == bt205.2.2.2)))) = true then (tricklelaw41_ExpiryPut.j0 k true a0_0 a0_1 a0_2 a0_3 a1_0 a1_1 a1_2 t171 t172 t173 t174) else ((expiry_Get.f a2_0 a2_1 a2_2 a2_3 a2_4 a2_5 a2_6 a2_7).bind fun bt209 => ((expiry_Put.f bt209.1 bt209.2.1 bt209.2.2.1 bt209.2.2.2).bind fun bt213 => (if (!(bt213.1 == a2_0) || (!(bt213.2.1 == a2_1) || (!(bt213.2.2.1 == a2_2) || (!(bt213.2.2.2.1 == a2_3) || (!(bt213.2.2.2.2.1 == a2_4) || (!(bt213.2.2.2.2.2.1 == a2_5) || (!(bt213.2.2.2.2.2.2.1 == a2_6) || (!(bt213.2.2.2.2.2.2.2 == a2_7))))))))) = true then (tricklelaw41_ExpiryPut.j0 k true a0_0 a0_1 a0_2 a0_3 a1_0 a1_1 a1_2 t171 t172 t173 t174) else (tricklelaw41_ExpiryPut.j0 k (t171 != a0_0) a0_0 a0_1 a0_2 a0_3 a1_0 a1_1 a1_2 t171 t172 t173 t174))))))))) = some r := H
    have A26 := Aside0.mk A260
    clear A260
    have c27 : ¬((!(t181 == t189) || (!(t182 == t190) || (!(t183 == t191) || (!(t184 == t192) || (!(t185 == t193) || (!(t186 == t194) || (!(t187 == t195) || (!(t188 == t196))))))))) = true) := by { have q := A24.out; simp only [tricklelaw41_own.f, Option.some.injEq, Prod.mk.injEq] at q; obtain ⟨rfl, rfl, rfl, rfl⟩ := q; have e := A25.out.symm.trans (hF1.trans A26.out); simp only [Option.some.injEq, Prod.mk.injEq] at e; obtain ⟨rfl, rfl, rfl, rfl, rfl, rfl, rfl, rfl⟩ := e; simp }
    rw [if_neg c27] at H
    have c27b0 : (!(t181 == t189) || (!(t182 == t190) || (!(t183 == t191) || (!(t184 == t192) || (!(t185 == t193) || (!(t186 == t194) || (!(t187 == t195) || (!(t188 == t196))))))))) = false := by simpa using c27
    clear c27
    (first | rw [c27b0] | (simp only [i64_w, i32_w]; rw [c27b0]) | skip)
    replace H := Option.bind_eq_some_iff.mp H
    obtain ⟨⟨t197, t198, t199, t200⟩, A340, H⟩ := H
    replace H : ((trickleref41_Get.f a2_0 a2_1 a2_2 a2_3 a2_4 a2_5 a2_6 a2_7).bind fun bt201 => ((tricklelaw41_own.f bt201.1 bt201.2.1 bt201.2.2.1 bt201.2.2.2).bind fun bt205 => (if (!(t197 == bt205.1) || ((!(t198 == bt205.2.1) || (!(t199 == bt205.2.2.1))) || (!(t200 == bt205.2.2.2)))) = true then (tricklelaw41_ExpiryPut.j0 k true a0_0 a0_1 a0_2 a0_3 a1_0 a1_1 a1_2 t171 t172 t173 t174) else ((expiry_Get.f a2_0 a2_1 a2_2 a2_3 a2_4 a2_5 a2_6 a2_7).bind fun bt209 => ((expiry_Put.f bt209.1 bt209.2.1 bt209.2.2.1 bt209.2.2.2).bind fun bt213 => (if (!(bt213.1 == a2_0) || (!(bt213.2.1 == a2_1) || (!(bt213.2.2.1 == a2_2) || (!(bt213.2.2.2.1 == a2_3) || (!(bt213.2.2.2.2.1 == a2_4) || (!(bt213.2.2.2.2.2.1 == a2_5) || (!(bt213.2.2.2.2.2.2.1 == a2_6) || (!(bt213.2.2.2.2.2.2.2 == a2_7))))))))) = true then (tricklelaw41_ExpiryPut.j0 k true a0_0 a0_1 a0_2 a0_3 a1_0 a1_1 a1_2 t171 t172 t173 t174) else (tricklelaw41_ExpiryPut.j0 k (t171 != a0_0) a0_0 a0_1 a0_2 a0_3 a1_0 a1_1 a1_2 t171 t172 t173 t174))))))) = some r := H
    have A34 := Aside0.mk A340
    clear A340
    replace H := Option.bind_eq_some_iff.mp H
    obtain ⟨⟨t201, t202, t203, t204⟩, A350, H⟩ := H
    replace H : ((tricklelaw41_own.f t201 t202 t203 t204).bind fun bt205 => (if (!(t197 == bt205.1) || ((!(t198 == bt205.2.1) || (!(t199 == bt205.2.2.1))) || (!(t200 == bt205.2.2.2)))) = true then (tricklelaw41_ExpiryPut.j0 k true a0_0 a0_1 a0_2 a0_3 a1_0 a1_1 a1_2 t171 t172 t173 t174) else ((expiry_Get.f a2_0 a2_1 a2_2 a2_3 a2_4 a2_5 a2_6 a2_7).bind fun bt209 => ((expiry_Put.f bt209.1 bt209.2.1 bt209.2.2.1 bt209.2.2.2).bind fun bt213 => (if (!(bt213.1 == a2_0) || (!(bt213.2.1 == a2_1) || (!(bt213.2.2.1 == a2_2) || (!(bt213.2.2.2.1 == a2_3) || (!(bt213.2.2.2.2.1 == a2_4) || (!(bt213.2.2.2.2.2.1 == a2_5) || (!(bt213.2.2.2.2.2.2.1 == a2_6) || (!(bt213.2.2.2.2.2.2.2 == a2_7))))))))) = true then (tricklelaw41_ExpiryPut.j0 k true a0_0 a0_1 a0_2 a0_3 a1_0 a1_1 a1_2 t171 t172 t173 t174) else (tricklelaw41_ExpiryPut.j0 k (t171 != a0_0) a0_0 a0_1 a0_2 a0_3 a1_0 a1_1 a1_2 t171 t172 t173 t174)))))) = some r := H
    have A35 := Aside0.mk A350
    clear A350
    replace H := Option.bind_eq_some_iff.mp H
    obtain ⟨⟨t205, t206, t207, t208⟩, A360, H⟩ := H
    replace H : (if (!(t197 == t205) || ((!(t198 == t206) || (!(t199 == t207))) || (!(t200 == t208)))) = true then (tricklelaw41_ExpiryPut.j0 k true a0_0 a0_1 a0_2 a0_3 a1_0 a1_1 a1_2 t171 t172 t173 t174) else ((expiry_Get.f a2_0 a2_1 a2_2 a2_3 a2_4 a2_5 a2_6 a2_7).bind fun bt209 => ((expiry_Put.f bt209.1 bt209.2.1 bt209.2.2.1 bt209.2.2.2).bind fun bt213 => (if (!(bt213.1 == a2_0) || (!(bt213.2.1 == a2_1) || (!(bt213.2.2.1 == a2_2) || (!(bt213.2.2.2.1 == a2_3) || (!(bt213.2.2.2.2.1 == a2_4) || (!(bt213.2.2.2.2.2.1 == a2_5) || (!(bt213.2.2.2.2.2.2.1 == a2_6) || (!(bt213.2.2.2.2.2.2.2 == a2_7))))))))) = true then (tricklelaw41_ExpiryPut.j0 k true a0_0 a0_1 a0_2 a0_3 a1_0 a1_1 a1_2 t171 t172 t173 t174) else (tricklelaw41_ExpiryPut.j0 k (t171 != a0_0) a0_0 a0_1 a0_2 a0_3 a1_0 a1_1 a1_2 t171 t172 t173 t174))))) = some r := H
    have A36 := Aside0.mk A360
    clear A360
    have c37 : ¬((!(t197 == t205) || ((!(t198 == t206) || (!(t199 == t207))) || (!(t200 == t208)))) = true) := by { have q := A36.out; simp only [tricklelaw41_own.f, Option.some.injEq, Prod.mk.injEq] at q; obtain ⟨rfl, rfl, rfl, rfl⟩ := q; have e := A34.out.symm.trans (hF2.trans A35.out); simp only [Option.some.injEq, Prod.mk.injEq] at e; obtain ⟨rfl, rfl, rfl, rfl⟩ := e; simp }
    rw [if_neg c37] at H
    have c37b0 : (!(t197 == t205) || ((!(t198 == t206) || (!(t199 == t207))) || (!(t200 == t208)))) = false := by simpa using c37
    clear c37
    replace H := Option.bind_eq_some_iff.mp H
    obtain ⟨⟨t209, t210, t211, t212⟩, A470, H⟩ := H
    replace H : ((expiry_Put.f t209 t210 t211 t212).bind fun bt213 => (if (!(bt213.1 == a2_0) || (!(bt213.2.1 == a2_1) || (!(bt213.2.2.1 == a2_2) || (!(bt213.2.2.2.1 == a2_3) || (!(bt213.2.2.2.2.1 == a2_4) || (!(bt213.2.2.2.2.2.1 == a2_5) || (!(bt213.2.2.2.2.2.2.1 == a2_6) || (!(bt213.2.2.2.2.2.2.2 == a2_7))))))))) = true then (tricklelaw41_ExpiryPut.j0 k true a0_0 a0_1 a0_2 a0_3 a1_0 a1_1 a1_2 t171 t172 t173 t174) else (tricklelaw41_ExpiryPut.j0 k (t171 != a0_0) a0_0 a0_1 a0_2 a0_3 a1_0 a1_1 a1_2 t171 t172 t173 t174))) = some r := H
    have A47 := Aside0.mk A470
    clear A470
    replace H := Option.bind_eq_some_iff.mp H
    obtain ⟨⟨t213, t214, t215, t216, t217, t218, t219, t220⟩, A480, H⟩ := H
    replace H : (if (!(t213 == a2_0) || (!(t214 == a2_1) || (!(t215 == a2_2) || (!(t216 == a2_3) || (!(t217 == a2_4) || (!(t218 == a2_5) || (!(t219 == a2_6) || (!(t220 == a2_7))))))))) = true then (tricklelaw41_ExpiryPut.j0 k true a0_0 a0_1 a0_2 a0_3 a1_0 a1_1 a1_2 t171 t172 t173 t174) else (tricklelaw41_ExpiryPut.j0 k (t171 != a0_0) a0_0 a0_1 a0_2 a0_3 a1_0 a1_1 a1_2 t171 t172 t173 t174)) = some r := H
    have A48 := Aside0.mk A480
    clear A480
    have c49 : ¬((!(t213 == a2_0) || (!(t214 == a2_1) || (!(t215 == a2_2) || (!(t216 == a2_3) || (!(t217 == a2_4) || (!(t218 == a2_5) || (!(t219 == a2_6) || (!(t220 == a2_7))))))))) = true) := by { have e := A48.out.symm.trans (hF3 _ _ _ _ A47.out); simp only [Option.some.injEq, Prod.mk.injEq] at e; obtain ⟨rfl, rfl, rfl, rfl, rfl, rfl, rfl, rfl⟩ := e; simp }
    rw [if_neg c49] at H
    have c49b0 : (!(t213 == a2_0) || (!(t214 == a2_1) || (!(t215 == a2_2) || (!(t216 == a2_3) || (!(t217 == a2_4) || (!(t218 == a2_5) || (!(t219 == a2_6) || (!(t220 == a2_7))))))))) = false := by simpa using c49
    clear c49
    have H' := Aside0.mk H
    clear H
    try go_wp2
    have n0_ : Aside0 (((((w17.setCell ⟨gb175, 0, none⟩ (.int .i16 t171)).setCell ⟨gb175, 1, none⟩ (.int .i64 t172)).setCell ⟨gb175, 2, none⟩ (.int .i64 t173)).setCell ⟨gb175, 3, none⟩ (.int .i64 t174)).heap[gb156]? = some (.cells #[.int .i16 a0_0, .int .i64 a0_1, .int .i64 a0_2, .int .i64 a0_3] 49 (0, 0))) := ⟨by (with_reducible repeat (first | refine blk_drewN ?_ _ | refine blk_drew ?_ | refine blk_alloc ?_ _)); refine blk_far ?_ NB156_175.out _; (with_reducible repeat (first | refine blk_drewN ?_ _ | refine blk_drew ?_ | refine blk_alloc ?_ _)); refine blk_far ?_ NB156_175.out _; (with_reducible repeat (first | refine blk_drewN ?_ _ | refine blk_drew ?_ | refine blk_alloc ?_ _)); refine blk_far ?_ NB156_175.out _; (with_reducible repeat (first | refine blk_drewN ?_ _ | refine blk_drew ?_ | refine blk_alloc ?_ _)); refine blk_far ?_ NB156_175.out _; (with_reducible repeat (first | refine blk_drewN ?_ _ | refine blk_drew ?_ | refine blk_alloc ?_ _)); exact BK156.out⟩
    have n1_ : Aside0 (((((w17.setCell ⟨gb175, 0, none⟩ (.int .i16 t171)).setCell ⟨gb175, 1, none⟩ (.int .i64 t172)).setCell ⟨gb175, 2, none⟩ (.int .i64 t173)).setCell ⟨gb175, 3, none⟩ (.int .i64 t174)).heap[gb157]? = some (.cells #[.int .i64 a1_0, .int .i64 a1_1, .int .i64 a1_2] 50 (0, 0))) := ⟨by (with_reducible repeat (first | refine blk_drewN ?_ _ | refine blk_drew ?_ | refine blk_alloc ?_ _)); refine blk_far ?_ NB157_175.out _; (with_reducible repeat (first | refine blk_drewN ?_ _ | refine blk_drew ?_ | refine blk_alloc ?_ _)); refine blk_far ?_ NB157_175.out _; (with_reducible repeat (first | refine blk_drewN ?_ _ | refine blk_drew ?_ | refine blk_alloc ?_ _)); refine blk_far ?_ NB157_175.out _; (with_reducible repeat (first | refine blk_drewN ?_ _ | refine blk_drew ?_ | refine blk_alloc ?_ _)); refine blk_far ?_ NB157_175.out _; (with_reducible repeat (first | refine blk_drewN ?_ _ | refine blk_drew ?_ | refine blk_alloc ?_ _)); exact BK157.out⟩
    have n2_ : Aside0 (((((w17.setCell ⟨gb175, 0, none⟩ (.int .i16 t171)).setCell ⟨gb175, 1, none⟩ (.int .i64 t172)).setCell ⟨gb175, 2, none⟩ (.int .i64 t173)).setCell ⟨gb175, 3, none⟩ (.int .i64 t174)).heap[gb158]? = some (.cells #[.int .u8 a2_0, .int .u8 a2_1, .int .u8 a2_2, .int .u8 a2_3, .int .u8 a2_4, .int .u8 a2_5, .int .u8 a2_6, .int .u8 a2_7] 71 (0, 0))) := ⟨by (with_reducible repeat (first | refine blk_drewN ?_ _ | refine blk_drew ?_ | refine blk_alloc ?_ _)); refine blk_far ?_ NB158_175.out _; (with_reducible repeat (first | refine blk_drewN ?_ _ | refine blk_drew ?_ | refine blk_alloc ?_ _)); refine blk_far ?_ NB158_175.out _; (with_reducible repeat (first | refine blk_drewN ?_ _ | refine blk_drew ?_ | refine blk_alloc ?_ _)); refine blk_far ?_ NB158_175.out _; (with_reducible repeat (first | refine blk_drewN ?_ _ | refine blk_drew ?_ | refine blk_alloc ?_ _)); refine blk_far ?_ NB158_175.out _; (with_reducible repeat (first | refine blk_drewN ?_ _ | refine blk_drew ?_ | refine blk_alloc ?_ _)); exact BK158.out⟩
    have n3_ : Aside0 (((((w17.setCell ⟨gb175, 0, none⟩ (.int .i16 t171)).setCell ⟨gb175, 1, none⟩ (.int .i64 t172)).setCell ⟨gb175, 2, none⟩ (.int .i64 t173)).setCell ⟨gb175, 3, none⟩ (.int .i64 t174)).heap[gb175]? = some (.cells #[.int .i16 t171, .int .i64 t172, .int .i64 t173, .int .i64 t174] 46 (0, 0))) := ⟨by (with_reducible repeat (first | refine blk_drewN ?_ _ | refine blk_drew ?_ | refine blk_alloc ?_ _)); refine blk_put (cs := #[.int .i16 t171, .int .i64 t172, .int .i64 t173, .int .i64 0]) ?_ 3 _ rfl; (with_reducible repeat (first | refine blk_drewN ?_ _ | refine blk_drew ?_ | refine blk_alloc ?_ _)); refine blk_put (cs := #[.int .i16 t171, .int .i64 t172, .int .i64 0, .int .i64 0]) ?_ 2 _ rfl; (with_reducible repeat (first | refine blk_drewN ?_ _ | refine blk_drew ?_ | refine blk_alloc ?_ _)); refine blk_put (cs := #[.int .i16 t171, .int .i64 0, .int .i64 0, .int .i64 0]) ?_ 1 _ rfl; (with_reducible repeat (first | refine blk_drewN ?_ _ | refine blk_drew ?_ | refine blk_alloc ?_ _)); refine blk_put (cs := #[.int .i16 0, .int .i64 0, .int .i64 0, .int .i64 0]) ?_ 0 _ rfl; (with_reducible repeat (first | refine blk_drewN ?_ _ | refine blk_drew ?_ | refine blk_alloc ?_ _)); exact BK175.out⟩
    have n4_ : Aside0 (Below w.heap.size w ((((w17.setCell ⟨gb175, 0, none⟩ (.int .i16 t171)).setCell ⟨gb175, 1, none⟩ (.int .i64 t172)).setCell ⟨gb175, 2, none⟩ (.int .i64 t173)).setCell ⟨gb175, 3, none⟩ (.int .i64 t174))) := ⟨by repeat (first | (with_reducible first | exact HB.out | apply below_alloc | apply pw_below_drewN | apply below_drew1 | refine below_set ?_ GE156.out | refine below_set ?_ GE157.out | refine below_set ?_ GE158.out | refine below_set ?_ GE175.out) | exact HB.out)⟩
    (try clear BK156)
    (try clear BK157)
    (try clear BK158)
    (try clear BK175)
    (try clear HB)
    generalize ((((w17.setCell ⟨gb175, 0, none⟩ (.int .i16 t171)).setCell ⟨gb175, 1, none⟩ (.int .i64 t172)).setCell ⟨gb175, 2, none⟩ (.int .i64 t173)).setCell ⟨gb175, 3, none⟩ (.int .i64 t174)) = w61 at n0_ n1_ n2_ n3_ n4_ ⊢
    have BK156 := n0_
    have BK157 := n1_
    have BK158 := n2_
    have BK175 := n3_
    have HB := n4_
    clear n0_ n1_ n2_ n3_ n4_
    have n0_ := Aside0.mk (blk_drew BK156.out)
    have n1_ := Aside0.mk (blk_drew BK157.out)
    have n2_ := Aside0.mk (blk_drew BK158.out)
    have n3_ := Aside0.mk (blk_drew BK175.out)
    have n4_ := Aside0.mk (below_drew1 HB.out)
    clear BK156
    clear BK157
    clear BK158
    clear BK175
    clear HB
    have BK156 := n0_
    have BK157 := n1_
    have BK158 := n2_
    have BK175 := n3_
    have HB := n4_
    clear n0_ n1_ n2_ n3_ n4_
    refine start_ (n := 32) (S := fun w' => w'.cell? ⟨gb156, 0, none⟩ = some (.int .i16 a0_0) ∧ w'.cell? ⟨gb156, 1, none⟩ = some (.int .i64 a0_1) ∧ w'.cell? ⟨gb156, 2, none⟩ = some (.int .i64 a0_2) ∧ w'.cell? ⟨gb156, 3, none⟩ = some (.int .i64 a0_3) ∧ w'.cell? ⟨gb158, 0, none⟩ = some (.int .u8 a2_0) ∧ w'.cell? ⟨gb158, 1, none⟩ = some (.int .u8 a2_1) ∧ w'.cell? ⟨gb158, 2, none⟩ = some (.int .u8 a2_2) ∧ w'.cell? ⟨gb158, 3, none⟩ = some (.int .u8 a2_3) ∧ w'.cell? ⟨gb158, 4, none⟩ = some (.int .u8 a2_4) ∧ w'.cell? ⟨gb158, 5, none⟩ = some (.int .u8 a2_5) ∧ w'.cell? ⟨gb158, 6, none⟩ = some (.int .u8 a2_6) ∧ w'.cell? ⟨gb158, 7, none⟩ = some (.int .u8 a2_7) ∧ w'.cell? ⟨gb175, 0, none⟩ = some (.int .i16 t171) ∧ w'.cell? ⟨gb175, 1, none⟩ = some (.int .i64 t172) ∧ w'.cell? ⟨gb175, 2, none⟩ = some (.int .i64 t173) ∧ w'.cell? ⟨gb175, 3, none⟩ = some (.int .i64 t174)) (ds := []) #[false, false, false, false, false, false, false, false, false, false, false, false, false, false, false, false, false, false, false, false, false, false, false, false, false, false, false, false, false, false, false, false] (by kernel_rfl) rfl rfl ⟨(blk_cell BK156.out 0).trans rfl, (blk_cell BK156.out 1).trans rfl, (blk_cell BK156.out 2).trans rfl, (blk_cell BK156.out 3).trans rfl, (blk_cell BK158.out 0).trans rfl, (blk_cell BK158.out 1).trans rfl, (blk_cell BK158.out 2).trans rfl, (blk_cell BK158.out 3).trans rfl, (blk_cell BK158.out 4).trans rfl, (blk_cell BK158.out 5).trans rfl, (blk_cell BK158.out 6).trans rfl, (blk_cell BK158.out 7).trans rfl, (blk_cell BK175.out 0).trans rfl, (blk_cell BK175.out 1).trans rfl, (blk_cell BK175.out 2).trans rfl, (blk_cell BK175.out 3).trans rfl⟩ (fun hHeld => ?_); refine with_tabW tricklelaw41_ExpiryPut.tab2 tricklelaw41_ExpiryPut.bits2 (fun HT_ HW_ => ?_)
    generalize w61.drew = w62 at BK156 BK157 BK158 BK175 HB hHeld ⊢
    refine one_ (i := 0) (N := some 12) #[true, false, false, false, false, false, false, false, false, false, false, false, false, false, false, false, false, false, false, false, false, false, false, false, false, false, false, false, false, false, false, false] rfl rfl (one_of HT_.out (by kernel_rfl)) (by decide) (fun K hK => ?_)
    refine goes_ Try.func9 (by kernel_rfl) rfl #[] (by rfl) rfl rfl (by (try simp only [List.map_toArray, List.map_cons, List.map_nil]); first | done | rfl | (simp only [List.length_drop, List.length_take]; rfl)) ?_
    with_reducible refine (tricklelaw41_examples.calls  true _ A22.out).mono ?_
    rintro e w63 ⟨rfl, hb⟩
    refine ⟨_, rfl, ?_⟩
    have n0_ := Aside0.mk (blk_below (g := gb156) (o := .cells #[.int .i16 a0_0, .int .i64 a0_1, .int .i64 a0_2, .int .i64 a0_3] 49 (0, 0)) (by (with_reducible repeat (first | refine blk_drewN ?_ _ | refine blk_drew ?_ | refine blk_alloc ?_ _)); exact BK156.out) hb)
    have n1_ := Aside0.mk (blk_below (g := gb157) (o := .cells #[.int .i64 a1_0, .int .i64 a1_1, .int .i64 a1_2] 50 (0, 0)) (by (with_reducible repeat (first | refine blk_drewN ?_ _ | refine blk_drew ?_ | refine blk_alloc ?_ _)); exact BK157.out) hb)
    have n2_ := Aside0.mk (blk_below (g := gb158) (o := .cells #[.int .u8 a2_0, .int .u8 a2_1, .int .u8 a2_2, .int .u8 a2_3, .int .u8 a2_4, .int .u8 a2_5, .int .u8 a2_6, .int .u8 a2_7] 71 (0, 0)) (by (with_reducible repeat (first | refine blk_drewN ?_ _ | refine blk_drew ?_ | refine blk_alloc ?_ _)); exact BK158.out) hb)
    have n3_ := Aside0.mk (blk_below (g := gb175) (o := .cells #[.int .i16 t171, .int .i64 t172, .int .i64 t173, .int .i64 t174] 46 (0, 0)) (by (with_reducible repeat (first | refine blk_drewN ?_ _ | refine blk_drew ?_ | refine blk_alloc ?_ _)); exact BK175.out) hb)
    have n4_ := Aside0.mk (below_step (by repeat (first | (with_reducible first | exact HB.out | apply below_alloc | apply pw_below_drewN | apply below_drew1 | refine below_set ?_ GE156.out | refine below_set ?_ GE157.out | refine below_set ?_ GE158.out | refine below_set ?_ GE175.out) | exact HB.out)) hb)
    clear BK156
    clear BK157
    clear BK158
    clear BK175
    clear HB
    have BK156 := n0_
    have BK157 := n1_
    have BK158 := n2_
    have BK175 := n3_
    have HB := n4_
    clear n0_ n1_ n2_ n3_ n4_
    (try clear hb)
    (try clear hb2)
    (try clear hk)
    (try clear hi)
    refine hK.out _ _ ⟨(blk_cell BK156.out 0).trans rfl, (blk_cell BK156.out 1).trans rfl, (blk_cell BK156.out 2).trans rfl, (blk_cell BK156.out 3).trans rfl, (blk_cell BK158.out 0).trans rfl, (blk_cell BK158.out 1).trans rfl, (blk_cell BK158.out 2).trans rfl, (blk_cell BK158.out 3).trans rfl, (blk_cell BK158.out 4).trans rfl, (blk_cell BK158.out 5).trans rfl, (blk_cell BK158.out 6).trans rfl, (blk_cell BK158.out 7).trans rfl, (blk_cell BK175.out 0).trans rfl, (blk_cell BK175.out 1).trans rfl, (blk_cell BK175.out 2).trans rfl, (blk_cell BK175.out 3).trans rfl⟩ (fun hHeld => ?_)
    clear hK K
    refine norm_ (a' := ?_) ?_ ?_
    rotate_left
    · show Act.put _ (some 12) _ = _
      simp only [Act.put, List.setIfInBounds_toArray, List.set_cons_zero, List.set_cons_succ, i64_w, i32_w]
      rfl
    refine pure_ (i := 1) (N := some 13) (v := ?_) (a' := ?_) #[true, true, false, false, false, false, false, false, false, false, false, false, false, false, false, false, false, false, false, false, false, false, false, false, false, false, false, false, false, false, false, false] rfl rfl (any_of HT_.out (by kernel_rfl)) (fun _ _ _ h => h) (Or.inl ⟨by rfl, ?_⟩) ?_ ?_
    rotate_left
    · intro w'
      go_simp
      with_reducible rfl
    rotate_left
    · simp only [Act.put, List.setIfInBounds_toArray, List.set_cons_zero, List.set_cons_succ, i64_w, i32_w]
      rfl
    refine pure_ (i := 2) (N := some 14) (v := ?_) (a' := ?_) #[true, true, true, false, false, false, false, false, false, false, false, false, false, false, false, false, false, false, false, false, false, false, false, false, false, false, false, false, false, false, false, false] rfl rfl (any_of HT_.out (by kernel_rfl)) (fun _ _ _ h => h) (Or.inl ⟨by rfl, ?_⟩) ?_ ?_
    rotate_left
    · intro w'
      go_simp
      with_reducible rfl
    rotate_left
    · simp only [Act.put, List.setIfInBounds_toArray, List.set_cons_zero, List.set_cons_succ, i64_w, i32_w]
      rfl
    refine take_ (i := 3) (N := some 15) (v := ?_) (a' := ?_) #[true, true, true, true, false, false, false, false, false, false, false, false, false, false, false, false, false, false, false, false, false, false, false, false, false, false, false, false, false, false, false, false] rfl rfl (take_ofW HT_.out HW_.out (by kernel_rfl)) (fun _ _ _ h => h) (Or.inl ⟨by rfl, ?_⟩) hHeld ?_ ?_
    rotate_left
    · rintro w' ⟨s0, s1, s2, s3, s4, s5, s6, s7, s8, s9, s10, s11, s12, s13, s14, s15⟩
      go_simp
      with_reducible rfl
    rotate_left
    · simp only [Act.put, List.setIfInBounds_toArray, List.set_cons_zero, List.set_cons_succ, i64_w, i32_w]
      rfl
    refine take_ (i := 6) (N := some 18) (v := ?_) (a' := ?_) #[true, true, true, true, false, false, true, false, false, false, false, false, false, false, false, false, false, false, false, false, false, false, false, false, false, false, false, false, false, false, false, false] rfl rfl (take_ofW HT_.out HW_.out (by kernel_rfl)) (fun _ _ _ h => h) (Or.inl ⟨by rfl, ?_⟩) hHeld ?_ ?_
    rotate_left
    · rintro w' ⟨s0, s1, s2, s3, s4, s5, s6, s7, s8, s9, s10, s11, s12, s13, s14, s15⟩
      go_simp
      with_reducible rfl
    rotate_left
    · simp only [Act.put, List.setIfInBounds_toArray, List.set_cons_zero, List.set_cons_succ, i64_w, i32_w]
      rfl
    refine one_ (i := 4) (N := some 16) #[true, true, true, true, true, false, true, false, false, false, false, false, false, false, false, false, false, false, false, false, false, false, false, false, false, false, false, false, false, false, false, false] rfl rfl (one_of HT_.out (by kernel_rfl)) (by decide) (fun K hK => ?_)
    refine goes_ Try.func19 (by kernel_rfl) rfl #[.agg #[.int .i16 a0_0, .int .i64 a0_1, .int .i64 a0_2, .int .i64 a0_3]] (by rfl) rfl rfl (by (try simp only [List.map_toArray, List.map_cons, List.map_nil]); first | done | rfl | (simp only [List.length_drop, List.length_take]; rfl)) ?_
    with_reducible refine (tricklelaw41_own.calls a0_0 a0_1 a0_2 a0_3 t177 t178 t179 t180 _ A24.out).mono ?_
    rintro e w64 ⟨rfl, hb⟩
    refine ⟨_, rfl, ?_⟩
    have n0_ := Aside0.mk (blk_below (g := gb156) (o := .cells #[.int .i16 a0_0, .int .i64 a0_1, .int .i64 a0_2, .int .i64 a0_3] 49 (0, 0)) (by (with_reducible repeat (first | refine blk_drewN ?_ _ | refine blk_drew ?_ | refine blk_alloc ?_ _)); exact BK156.out) hb)
    have n1_ := Aside0.mk (blk_below (g := gb157) (o := .cells #[.int .i64 a1_0, .int .i64 a1_1, .int .i64 a1_2] 50 (0, 0)) (by (with_reducible repeat (first | refine blk_drewN ?_ _ | refine blk_drew ?_ | refine blk_alloc ?_ _)); exact BK157.out) hb)
    have n2_ := Aside0.mk (blk_below (g := gb158) (o := .cells #[.int .u8 a2_0, .int .u8 a2_1, .int .u8 a2_2, .int .u8 a2_3, .int .u8 a2_4, .int .u8 a2_5, .int .u8 a2_6, .int .u8 a2_7] 71 (0, 0)) (by (with_reducible repeat (first | refine blk_drewN ?_ _ | refine blk_drew ?_ | refine blk_alloc ?_ _)); exact BK158.out) hb)
    have n3_ := Aside0.mk (blk_below (g := gb175) (o := .cells #[.int .i16 t171, .int .i64 t172, .int .i64 t173, .int .i64 t174] 46 (0, 0)) (by (with_reducible repeat (first | refine blk_drewN ?_ _ | refine blk_drew ?_ | refine blk_alloc ?_ _)); exact BK175.out) hb)
    have n4_ := Aside0.mk (below_step (by repeat (first | (with_reducible first | exact HB.out | apply below_alloc | apply pw_below_drewN | apply below_drew1 | refine below_set ?_ GE156.out | refine below_set ?_ GE157.out | refine below_set ?_ GE158.out | refine below_set ?_ GE175.out) | exact HB.out)) hb)
    clear BK156
    clear BK157
    clear BK158
    clear BK175
    clear HB
    have BK156 := n0_
    have BK157 := n1_
    have BK158 := n2_
    have BK175 := n3_
    have HB := n4_
    clear n0_ n1_ n2_ n3_ n4_
    (try clear hb)
    (try clear hb2)
    (try clear hk)
    (try clear hi)
    refine hK.out _ _ ⟨(blk_cell BK156.out 0).trans rfl, (blk_cell BK156.out 1).trans rfl, (blk_cell BK156.out 2).trans rfl, (blk_cell BK156.out 3).trans rfl, (blk_cell BK158.out 0).trans rfl, (blk_cell BK158.out 1).trans rfl, (blk_cell BK158.out 2).trans rfl, (blk_cell BK158.out 3).trans rfl, (blk_cell BK158.out 4).trans rfl, (blk_cell BK158.out 5).trans rfl, (blk_cell BK158.out 6).trans rfl, (blk_cell BK158.out 7).trans rfl, (blk_cell BK175.out 0).trans rfl, (blk_cell BK175.out 1).trans rfl, (blk_cell BK175.out 2).trans rfl, (blk_cell BK175.out 3).trans rfl⟩ (fun hHeld => ?_)
    clear hK K
    refine norm_ (a' := ?_) ?_ ?_
    rotate_left
    · show Act.put _ (some 16) _ = _
      simp only [Act.put, List.setIfInBounds_toArray, List.set_cons_zero, List.set_cons_succ, i64_w, i32_w]
      rfl
    refine one_ (i := 5) (N := some 17) #[true, true, true, true, true, true, true, false, false, false, false, false, false, false, false, false, false, false, false, false, false, false, false, false, false, false, false, false, false, false, false, false] rfl rfl (one_of HT_.out (by kernel_rfl)) (by decide) (fun K hK => ?_)
    refine goes_ Try.func33 (by kernel_rfl) rfl #[.agg #[.int .i16 t177, .int .i64 t178, .int .i64 t179, .int .i64 t180]] (by rfl) rfl rfl (by (try simp only [List.map_toArray, List.map_cons, List.map_nil]); first | done | rfl | (simp only [List.length_drop, List.length_take]; rfl)) ?_
    with_reducible refine (expiry_Put.calls t177 t178 t179 t180 t181 t182 t183 t184 t185 t186 t187 t188 _ A25.out).mono ?_
    rintro e w65 ⟨rfl, hb⟩
    refine ⟨_, rfl, ?_⟩
    have n0_ := Aside0.mk (blk_below (g := gb156) (o := .cells #[.int .i16 a0_0, .int .i64 a0_1, .int .i64 a0_2, .int .i64 a0_3] 49 (0, 0)) (by (with_reducible repeat (first | refine blk_drewN ?_ _ | refine blk_drew ?_ | refine blk_alloc ?_ _)); exact BK156.out) hb)
    have n1_ := Aside0.mk (blk_below (g := gb157) (o := .cells #[.int .i64 a1_0, .int .i64 a1_1, .int .i64 a1_2] 50 (0, 0)) (by (with_reducible repeat (first | refine blk_drewN ?_ _ | refine blk_drew ?_ | refine blk_alloc ?_ _)); exact BK157.out) hb)
    have n2_ := Aside0.mk (blk_below (g := gb158) (o := .cells #[.int .u8 a2_0, .int .u8 a2_1, .int .u8 a2_2, .int .u8 a2_3, .int .u8 a2_4, .int .u8 a2_5, .int .u8 a2_6, .int .u8 a2_7] 71 (0, 0)) (by (with_reducible repeat (first | refine blk_drewN ?_ _ | refine blk_drew ?_ | refine blk_alloc ?_ _)); exact BK158.out) hb)
    have n3_ := Aside0.mk (blk_below (g := gb175) (o := .cells #[.int .i16 t171, .int .i64 t172, .int .i64 t173, .int .i64 t174] 46 (0, 0)) (by (with_reducible repeat (first | refine blk_drewN ?_ _ | refine blk_drew ?_ | refine blk_alloc ?_ _)); exact BK175.out) hb)
    have n4_ := Aside0.mk (below_step (by repeat (first | (with_reducible first | exact HB.out | apply below_alloc | apply pw_below_drewN | apply below_drew1 | refine below_set ?_ GE156.out | refine below_set ?_ GE157.out | refine below_set ?_ GE158.out | refine below_set ?_ GE175.out) | exact HB.out)) hb)
    clear BK156
    clear BK157
    clear BK158
    clear BK175
    clear HB
    have BK156 := n0_
    have BK157 := n1_
    have BK158 := n2_
    have BK175 := n3_
    have HB := n4_
    clear n0_ n1_ n2_ n3_ n4_
    (try clear hb)
    (try clear hb2)
    (try clear hk)
    (try clear hi)
    refine hK.out _ _ ⟨(blk_cell BK156.out 0).trans rfl, (blk_cell BK156.out 1).trans rfl, (blk_cell BK156.out 2).trans rfl, (blk_cell BK156.out 3).trans rfl, (blk_cell BK158.out 0).trans rfl, (blk_cell BK158.out 1).trans rfl, (blk_cell BK158.out 2).trans rfl, (blk_cell BK158.out 3).trans rfl, (blk_cell BK158.out 4).trans rfl, (blk_cell BK158.out 5).trans rfl, (blk_cell BK158.out 6).trans rfl, (blk_cell BK158.out 7).trans rfl, (blk_cell BK175.out 0).trans rfl, (blk_cell BK175.out 1).trans rfl, (blk_cell BK175.out 2).trans rfl, (blk_cell BK175.out 3).trans rfl⟩ (fun hHeld => ?_)
    clear hK K
    refine norm_ (a' := ?_) ?_ ?_
    rotate_left
    · show Act.put _ (some 17) _ = _
      simp only [Act.put, List.setIfInBounds_toArray, List.set_cons_zero, List.set_cons_succ, i64_w, i32_w]
      rfl
    refine one_ (i := 7) (N := some 19) #[true, true, true, true, true, true, true, true, false, false, false, false, false, false, false, false, false, false, false, false, false, false, false, false, false, false, false, false, false, false, false, false] rfl rfl (one_of HT_.out (by kernel_rfl)) (by decide) (fun K hK => ?_)
    refine goes_ Try.func34 (by kernel_rfl) rfl #[.agg #[.int .i16 a0_0, .int .i64 a0_1, .int .i64 a0_2, .int .i64 a0_3]] (by rfl) rfl rfl (by (try simp only [List.map_toArray, List.map_cons, List.map_nil]); first | done | rfl | (simp only [List.length_drop, List.length_take]; rfl)) ?_
    with_reducible refine (trickleref41_Put.calls a0_0 a0_1 a0_2 a0_3 t189 t190 t191 t192 t193 t194 t195 t196 _ A26.out).mono ?_
    rintro e w66 ⟨rfl, hb⟩
    refine ⟨_, rfl, ?_⟩
    have n0_ := Aside0.mk (blk_below (g := gb156) (o := .cells #[.int .i16 a0_0, .int .i64 a0_1, .int .i64 a0_2, .int .i64 a0_3] 49 (0, 0)) (by (with_reducible repeat (first | refine blk_drewN ?_ _ | refine blk_drew ?_ | refine blk_alloc ?_ _)); exact BK156.out) hb)
    have n1_ := Aside0.mk (blk_below (g := gb157) (o := .cells #[.int .i64 a1_0, .int .i64 a1_1, .int .i64 a1_2] 50 (0, 0)) (by (with_reducible repeat (first | refine blk_drewN ?_ _ | refine blk_drew ?_ | refine blk_alloc ?_ _)); exact BK157.out) hb)
    have n2_ := Aside0.mk (blk_below (g := gb158) (o := .cells #[.int .u8 a2_0, .int .u8 a2_1, .int .u8 a2_2, .int .u8 a2_3, .int .u8 a2_4, .int .u8 a2_5, .int .u8 a2_6, .int .u8 a2_7] 71 (0, 0)) (by (with_reducible repeat (first | refine blk_drewN ?_ _ | refine blk_drew ?_ | refine blk_alloc ?_ _)); exact BK158.out) hb)
    have n3_ := Aside0.mk (blk_below (g := gb175) (o := .cells #[.int .i16 t171, .int .i64 t172, .int .i64 t173, .int .i64 t174] 46 (0, 0)) (by (with_reducible repeat (first | refine blk_drewN ?_ _ | refine blk_drew ?_ | refine blk_alloc ?_ _)); exact BK175.out) hb)
    have n4_ := Aside0.mk (below_step (by repeat (first | (with_reducible first | exact HB.out | apply below_alloc | apply pw_below_drewN | apply below_drew1 | refine below_set ?_ GE156.out | refine below_set ?_ GE157.out | refine below_set ?_ GE158.out | refine below_set ?_ GE175.out) | exact HB.out)) hb)
    clear BK156
    clear BK157
    clear BK158
    clear BK175
    clear HB
    have BK156 := n0_
    have BK157 := n1_
    have BK158 := n2_
    have BK175 := n3_
    have HB := n4_
    clear n0_ n1_ n2_ n3_ n4_
    (try clear hb)
    (try clear hb2)
    (try clear hk)
    (try clear hi)
    refine hK.out _ _ ⟨(blk_cell BK156.out 0).trans rfl, (blk_cell BK156.out 1).trans rfl, (blk_cell BK156.out 2).trans rfl, (blk_cell BK156.out 3).trans rfl, (blk_cell BK158.out 0).trans rfl, (blk_cell BK158.out 1).trans rfl, (blk_cell BK158.out 2).trans rfl, (blk_cell BK158.out 3).trans rfl, (blk_cell BK158.out 4).trans rfl, (blk_cell BK158.out 5).trans rfl, (blk_cell BK158.out 6).trans rfl, (blk_cell BK158.out 7).trans rfl, (blk_cell BK175.out 0).trans rfl, (blk_cell BK175.out 1).trans rfl, (blk_cell BK175.out 2).trans rfl, (blk_cell BK175.out 3).trans rfl⟩ (fun hHeld => ?_)
    clear hK K
    refine norm_ (a' := ?_) ?_ ?_
    rotate_left
    · show Act.put _ (some 19) _ = _
      simp only [Act.put, List.setIfInBounds_toArray, List.set_cons_zero, List.set_cons_succ, i64_w, i32_w]
      rfl
    refine pure_ (i := 8) (N := some 20) (v := ?_) (a' := ?_) #[true, true, true, true, true, true, true, true, true, false, false, false, false, false, false, false, false, false, false, false, false, false, false, false, false, false, false, false, false, false, false, false] rfl rfl (any_of HT_.out (by kernel_rfl)) (fun _ _ _ h => h) (Or.inl ⟨by rfl, ?_⟩) ?_ ?_
    rotate_left
    · intro w'
      go_simp
      with_reducible rfl
    rotate_left
    · simp only [Act.put, List.setIfInBounds_toArray, List.set_cons_zero, List.set_cons_succ, i64_w, i32_w]
      rfl
    refine pure_ (i := 9) (N := some 21) (v := ?_) (a' := ?_) #[true, true, true, true, true, true, true, true, true, true, false, false, false, false, false, false, false, false, false, false, false, false, false, false, false, false, false, false, false, false, false, false] rfl rfl (any_of HT_.out (by kernel_rfl)) (fun _ _ _ h => h) (Or.inl ⟨by rfl, ?_⟩) ?_ ?_
    rotate_left
    · intro w'
      go_simp
      with_reducible rfl
    rotate_left
    · simp only [Act.put, List.setIfInBounds_toArray, List.set_cons_zero, List.set_cons_succ, i64_w, i32_w]
      rfl
    refine pure_ (i := 10) (N := some 22) (v := ?_) (a' := ?_) #[true, true, true, true, true, true, true, true, true, true, true, false, false, false, false, false, false, false, false, false, false, false, false, false, false, false, false, false, false, false, false, false] rfl rfl (any_of HT_.out (by kernel_rfl)) (fun _ _ _ h => h) (Or.inl ⟨by rfl, ?_⟩) ?_ ?_
    rotate_left
    · intro w'
      go_simp
      with_reducible rfl
    rotate_left
    · simp only [Act.put, List.setIfInBounds_toArray, List.set_cons_zero, List.set_cons_succ, i64_w, i32_w]
      rfl
    refine take_ (i := 11) (N := some 23) (v := ?_) (a' := ?_) #[true, true, true, true, true, true, true, true, true, true, true, true, false, false, false, false, false, false, false, false, false, false, false, false, false, false, false, false, false, false, false, false] rfl rfl (take_ofW HT_.out HW_.out (by kernel_rfl)) (fun _ _ _ h => h) (Or.inl ⟨by rfl, ?_⟩) hHeld ?_ ?_
    rotate_left
    · rintro w' ⟨s0, s1, s2, s3, s4, s5, s6, s7, s8, s9, s10, s11, s12, s13, s14, s15⟩
      go_simp
      with_reducible rfl
    rotate_left
    · simp only [Act.put, List.setIfInBounds_toArray, List.set_cons_zero, List.set_cons_succ, i64_w, i32_w]
      rfl
    refine take_ (i := 13) (N := some 25) (v := ?_) (a' := ?_) #[true, true, true, true, true, true, true, true, true, true, true, true, false, true, false, false, false, false, false, false, false, false, false, false, false, false, false, false, false, false, false, false] rfl rfl (take_ofW HT_.out HW_.out (by kernel_rfl)) (fun _ _ _ h => h) (Or.inl ⟨by rfl, ?_⟩) hHeld ?_ ?_
    rotate_left
    · rintro w' ⟨s0, s1, s2, s3, s4, s5, s6, s7, s8, s9, s10, s11, s12, s13, s14, s15⟩
      go_simp
      with_reducible rfl
    rotate_left
    · simp only [Act.put, List.setIfInBounds_toArray, List.set_cons_zero, List.set_cons_succ, i64_w, i32_w]
      rfl
    refine one_ (i := 12) (N := some 24) #[true, true, true, true, true, true, true, true, true, true, true, true, true, true, false, false, false, false, false, false, false, false, false, false, false, false, false, false, false, false, false, false] rfl rfl (one_of HT_.out (by kernel_rfl)) (by decide) (fun K hK => ?_)
    refine goes_ Try.func32 (by kernel_rfl) rfl #[.agg #[.int .u8 a2_0, .int .u8 a2_1, .int .u8 a2_2, .int .u8 a2_3, .int .u8 a2_4, .int .u8 a2_5, .int .u8 a2_6, .int .u8 a2_7]] (by rfl) rfl rfl (by (try simp only [List.map_toArray, List.map_cons, List.map_nil]); first | done | rfl | (simp only [List.length_drop, List.length_take]; rfl)) ?_
    with_reducible refine (expiry_Get.calls a2_0 a2_1 a2_2 a2_3 a2_4 a2_5 a2_6 a2_7 t197 t198 t199 t200 _ A34.out).mono ?_
    rintro e w67 ⟨rfl, hb⟩
    refine ⟨_, rfl, ?_⟩
    have n0_ := Aside0.mk (blk_below (g := gb156) (o := .cells #[.int .i16 a0_0, .int .i64 a0_1, .int .i64 a0_2, .int .i64 a0_3] 49 (0, 0)) (by (with_reducible repeat (first | refine blk_drewN ?_ _ | refine blk_drew ?_ | refine blk_alloc ?_ _)); exact BK156.out) hb)
    have n1_ := Aside0.mk (blk_below (g := gb157) (o := .cells #[.int .i64 a1_0, .int .i64 a1_1, .int .i64 a1_2] 50 (0, 0)) (by (with_reducible repeat (first | refine blk_drewN ?_ _ | refine blk_drew ?_ | refine blk_alloc ?_ _)); exact BK157.out) hb)
    have n2_ := Aside0.mk (blk_below (g := gb158) (o := .cells #[.int .u8 a2_0, .int .u8 a2_1, .int .u8 a2_2, .int .u8 a2_3, .int .u8 a2_4, .int .u8 a2_5, .int .u8 a2_6, .int .u8 a2_7] 71 (0, 0)) (by (with_reducible repeat (first | refine blk_drewN ?_ _ | refine blk_drew ?_ | refine blk_alloc ?_ _)); exact BK158.out) hb)
    have n3_ := Aside0.mk (blk_below (g := gb175) (o := .cells #[.int .i16 t171, .int .i64 t172, .int .i64 t173, .int .i64 t174] 46 (0, 0)) (by (with_reducible repeat (first | refine blk_drewN ?_ _ | refine blk_drew ?_ | refine blk_alloc ?_ _)); exact BK175.out) hb)
    have n4_ := Aside0.mk (below_step (by repeat (first | (with_reducible first | exact HB.out | apply below_alloc | apply pw_below_drewN | apply below_drew1 | refine below_set ?_ GE156.out | refine below_set ?_ GE157.out | refine below_set ?_ GE158.out | refine below_set ?_ GE175.out) | exact HB.out)) hb)
    clear BK156
    clear BK157
    clear BK158
    clear BK175
    clear HB
    have BK156 := n0_
    have BK157 := n1_
    have BK158 := n2_
    have BK175 := n3_
    have HB := n4_
    clear n0_ n1_ n2_ n3_ n4_
    (try clear hb)
    (try clear hb2)
    (try clear hk)
    (try clear hi)
    refine hK.out _ _ ⟨(blk_cell BK156.out 0).trans rfl, (blk_cell BK156.out 1).trans rfl, (blk_cell BK156.out 2).trans rfl, (blk_cell BK156.out 3).trans rfl, (blk_cell BK158.out 0).trans rfl, (blk_cell BK158.out 1).trans rfl, (blk_cell BK158.out 2).trans rfl, (blk_cell BK158.out 3).trans rfl, (blk_cell BK158.out 4).trans rfl, (blk_cell BK158.out 5).trans rfl, (blk_cell BK158.out 6).trans rfl, (blk_cell BK158.out 7).trans rfl, (blk_cell BK175.out 0).trans rfl, (blk_cell BK175.out 1).trans rfl, (blk_cell BK175.out 2).trans rfl, (blk_cell BK175.out 3).trans rfl⟩ (fun hHeld => ?_)
    clear hK K
    refine norm_ (a' := ?_) ?_ ?_
    rotate_left
    · show Act.put _ (some 24) _ = _
      simp only [Act.put, List.setIfInBounds_toArray, List.set_cons_zero, List.set_cons_succ, i64_w, i32_w]
      rfl
    refine one_ (i := 14) (N := some 26) #[true, true, true, true, true, true, true, true, true, true, true, true, true, true, true, false, false, false, false, false, false, false, false, false, false, false, false, false, false, false, false, false] rfl rfl (one_of HT_.out (by kernel_rfl)) (by decide) (fun K hK => ?_)
    refine goes_ Try.func35 (by kernel_rfl) rfl #[.agg #[.int .u8 a2_0, .int .u8 a2_1, .int .u8 a2_2, .int .u8 a2_3, .int .u8 a2_4, .int .u8 a2_5, .int .u8 a2_6, .int .u8 a2_7]] (by rfl) rfl rfl (by (try simp only [List.map_toArray, List.map_cons, List.map_nil]); first | done | rfl | (simp only [List.length_drop, List.length_take]; rfl)) ?_
    with_reducible refine (trickleref41_Get.calls a2_0 a2_1 a2_2 a2_3 a2_4 a2_5 a2_6 a2_7 t201 t202 t203 t204 _ A35.out).mono ?_
    rintro e w68 ⟨rfl, hb⟩
    refine ⟨_, rfl, ?_⟩
    have n0_ := Aside0.mk (blk_below (g := gb156) (o := .cells #[.int .i16 a0_0, .int .i64 a0_1, .int .i64 a0_2, .int .i64 a0_3] 49 (0, 0)) (by (with_reducible repeat (first | refine blk_drewN ?_ _ | refine blk_drew ?_ | refine blk_alloc ?_ _)); exact BK156.out) hb)
    have n1_ := Aside0.mk (blk_below (g := gb157) (o := .cells #[.int .i64 a1_0, .int .i64 a1_1, .int .i64 a1_2] 50 (0, 0)) (by (with_reducible repeat (first | refine blk_drewN ?_ _ | refine blk_drew ?_ | refine blk_alloc ?_ _)); exact BK157.out) hb)
    have n2_ := Aside0.mk (blk_below (g := gb158) (o := .cells #[.int .u8 a2_0, .int .u8 a2_1, .int .u8 a2_2, .int .u8 a2_3, .int .u8 a2_4, .int .u8 a2_5, .int .u8 a2_6, .int .u8 a2_7] 71 (0, 0)) (by (with_reducible repeat (first | refine blk_drewN ?_ _ | refine blk_drew ?_ | refine blk_alloc ?_ _)); exact BK158.out) hb)
    have n3_ := Aside0.mk (blk_below (g := gb175) (o := .cells #[.int .i16 t171, .int .i64 t172, .int .i64 t173, .int .i64 t174] 46 (0, 0)) (by (with_reducible repeat (first | refine blk_drewN ?_ _ | refine blk_drew ?_ | refine blk_alloc ?_ _)); exact BK175.out) hb)
    have n4_ := Aside0.mk (below_step (by repeat (first | (with_reducible first | exact HB.out | apply below_alloc | apply pw_below_drewN | apply below_drew1 | refine below_set ?_ GE156.out | refine below_set ?_ GE157.out | refine below_set ?_ GE158.out | refine below_set ?_ GE175.out) | exact HB.out)) hb)
    clear BK156
    clear BK157
    clear BK158
    clear BK175
    clear HB
    have BK156 := n0_
    have BK157 := n1_
    have BK158 := n2_
    have BK175 := n3_
    have HB := n4_
    clear n0_ n1_ n2_ n3_ n4_
    (try clear hb)
    (try clear hb2)
    (try clear hk)
    (try clear hi)
    refine hK.out _ _ ⟨(blk_cell BK156.out 0).trans rfl, (blk_cell BK156.out 1).trans rfl, (blk_cell BK156.out 2).trans rfl, (blk_cell BK156.out 3).trans rfl, (blk_cell BK158.out 0).trans rfl, (blk_cell BK158.out 1).trans rfl, (blk_cell BK158.out 2).trans rfl, (blk_cell BK158.out 3).trans rfl, (blk_cell BK158.out 4).trans rfl, (blk_cell BK158.out 5).trans rfl, (blk_cell BK158.out 6).trans rfl, (blk_cell BK158.out 7).trans rfl, (blk_cell BK175.out 0).trans rfl, (blk_cell BK175.out 1).trans rfl, (blk_cell BK175.out 2).trans rfl, (blk_cell BK175.out 3).trans rfl⟩ (fun hHeld => ?_)
    clear hK K
    refine norm_ (a' := ?_) ?_ ?_
    rotate_left
    · show Act.put _ (some 26) _ = _
      simp only [Act.put, List.setIfInBounds_toArray, List.set_cons_zero, List.set_cons_succ, i64_w, i32_w]
      rfl
    refine one_ (i := 15) (N := some 27) #[true, true, true, true, true, true, true, true, true, true, true, true, true, true, true, true, false, false, false, false, false, false, false, false, false, false, false, false, false, false, false, false] rfl rfl (one_of HT_.out (by kernel_rfl)) (by decide) (fun K hK => ?_)
    refine goes_ Try.func19 (by kernel_rfl) rfl #[.agg #[.int .i16 t201, .int .i64 t202, .int .i64 t203, .int .i64 t204]] (by rfl) rfl rfl (by (try simp only [List.map_toArray, List.map_cons, List.map_nil]); first | done | rfl | (simp only [List.length_drop, List.length_take]; rfl)) ?_
    with_reducible refine (tricklelaw41_own.calls t201 t202 t203 t204 t205 t206 t207 t208 _ A36.out).mono ?_
    rintro e w69 ⟨rfl, hb⟩
    refine ⟨_, rfl, ?_⟩
    have n0_ := Aside0.mk (blk_below (g := gb156) (o := .cells #[.int .i16 a0_0, .int .i64 a0_1, .int .i64 a0_2, .int .i64 a0_3] 49 (0, 0)) (by (with_reducible repeat (first | refine blk_drewN ?_ _ | refine blk_drew ?_ | refine blk_alloc ?_ _)); exact BK156.out) hb)
    have n1_ := Aside0.mk (blk_below (g := gb157) (o := .cells #[.int .i64 a1_0, .int .i64 a1_1, .int .i64 a1_2] 50 (0, 0)) (by (with_reducible repeat (first | refine blk_drewN ?_ _ | refine blk_drew ?_ | refine blk_alloc ?_ _)); exact BK157.out) hb)
    have n2_ := Aside0.mk (blk_below (g := gb158) (o := .cells #[.int .u8 a2_0, .int .u8 a2_1, .int .u8 a2_2, .int .u8 a2_3, .int .u8 a2_4, .int .u8 a2_5, .int .u8 a2_6, .int .u8 a2_7] 71 (0, 0)) (by (with_reducible repeat (first | refine blk_drewN ?_ _ | refine blk_drew ?_ | refine blk_alloc ?_ _)); exact BK158.out) hb)
    have n3_ := Aside0.mk (blk_below (g := gb175) (o := .cells #[.int .i16 t171, .int .i64 t172, .int .i64 t173, .int .i64 t174] 46 (0, 0)) (by (with_reducible repeat (first | refine blk_drewN ?_ _ | refine blk_drew ?_ | refine blk_alloc ?_ _)); exact BK175.out) hb)
    have n4_ := Aside0.mk (below_step (by repeat (first | (with_reducible first | exact HB.out | apply below_alloc | apply pw_below_drewN | apply below_drew1 | refine below_set ?_ GE156.out | refine below_set ?_ GE157.out | refine below_set ?_ GE158.out | refine below_set ?_ GE175.out) | exact HB.out)) hb)
    clear BK156
    clear BK157
    clear BK158
    clear BK175
    clear HB
    have BK156 := n0_
    have BK157 := n1_
    have BK158 := n2_
    have BK175 := n3_
    have HB := n4_
    clear n0_ n1_ n2_ n3_ n4_
    (try clear hb)
    (try clear hb2)
    (try clear hk)
    (try clear hi)
    refine hK.out _ _ ⟨(blk_cell BK156.out 0).trans rfl, (blk_cell BK156.out 1).trans rfl, (blk_cell BK156.out 2).trans rfl, (blk_cell BK156.out 3).trans rfl, (blk_cell BK158.out 0).trans rfl, (blk_cell BK158.out 1).trans rfl, (blk_cell BK158.out 2).trans rfl, (blk_cell BK158.out 3).trans rfl, (blk_cell BK158.out 4).trans rfl, (blk_cell BK158.out 5).trans rfl, (blk_cell BK158.out 6).trans rfl, (blk_cell BK158.out 7).trans rfl, (blk_cell BK175.out 0).trans rfl, (blk_cell BK175.out 1).trans rfl, (blk_cell BK175.out 2).trans rfl, (blk_cell BK175.out 3).trans rfl⟩ (fun hHeld => ?_)
    clear hK K
    refine norm_ (a' := ?_) ?_ ?_
    rotate_left
    · show Act.put _ (some 27) _ = _
      simp only [Act.put, List.setIfInBounds_toArray, List.set_cons_zero, List.set_cons_succ, i64_w, i32_w]
      rfl
    refine pure_ (i := 16) (N := some 28) (v := ?_) (a' := ?_) #[true, true, true, true, true, true, true, true, true, true, true, true, true, true, true, true, true, false, false, false, false, false, false, false, false, false, false, false, false, false, false, false] rfl rfl (any_of HT_.out (by kernel_rfl)) (fun _ _ _ h => h) (Or.inl ⟨by rfl, ?_⟩) ?_ ?_
    rotate_left
    · intro w'
      go_simp
      with_reducible rfl
    rotate_left
    · simp only [Act.put, List.setIfInBounds_toArray, List.set_cons_zero, List.set_cons_succ, i64_w, i32_w]
      rfl
    refine pure_ (i := 17) (N := some 29) (v := ?_) (a' := ?_) #[true, true, true, true, true, true, true, true, true, true, true, true, true, true, true, true, true, true, false, false, false, false, false, false, false, false, false, false, false, false, false, false] rfl rfl (any_of HT_.out (by kernel_rfl)) (fun _ _ _ h => h) (Or.inl ⟨by rfl, ?_⟩) ?_ ?_
    rotate_left
    · intro w'
      go_simp
      with_reducible rfl
    rotate_left
    · simp only [Act.put, List.setIfInBounds_toArray, List.set_cons_zero, List.set_cons_succ, i64_w, i32_w]
      rfl
    refine pure_ (i := 18) (N := some 30) (v := ?_) (a' := ?_) #[true, true, true, true, true, true, true, true, true, true, true, true, true, true, true, true, true, true, true, false, false, false, false, false, false, false, false, false, false, false, false, false] rfl rfl (any_of HT_.out (by kernel_rfl)) (fun _ _ _ h => h) (Or.inl ⟨by rfl, ?_⟩) ?_ ?_
    rotate_left
    · intro w'
      go_simp
      with_reducible rfl
    rotate_left
    · simp only [Act.put, List.setIfInBounds_toArray, List.set_cons_zero, List.set_cons_succ, i64_w, i32_w]
      rfl
    refine take_ (i := 19) (N := some 31) (v := ?_) (a' := ?_) #[true, true, true, true, true, true, true, true, true, true, true, true, true, true, true, true, true, true, true, true, false, false, false, false, false, false, false, false, false, false, false, false] rfl rfl (take_ofW HT_.out HW_.out (by kernel_rfl)) (fun _ _ _ h => h) (Or.inl ⟨by rfl, ?_⟩) hHeld ?_ ?_
    rotate_left
    · rintro w' ⟨s0, s1, s2, s3, s4, s5, s6, s7, s8, s9, s10, s11, s12, s13, s14, s15⟩
      go_simp
      with_reducible rfl
    rotate_left
    · simp only [Act.put, List.setIfInBounds_toArray, List.set_cons_zero, List.set_cons_succ, i64_w, i32_w]
      rfl
    refine take_ (i := 22) (N := some 34) (v := ?_) (a' := ?_) #[true, true, true, true, true, true, true, true, true, true, true, true, true, true, true, true, true, true, true, true, false, false, true, false, false, false, false, false, false, false, false, false] rfl rfl (take_ofW HT_.out HW_.out (by kernel_rfl)) (fun _ _ _ h => h) (Or.inl ⟨by rfl, ?_⟩) hHeld ?_ ?_
    rotate_left
    · rintro w' ⟨s0, s1, s2, s3, s4, s5, s6, s7, s8, s9, s10, s11, s12, s13, s14, s15⟩
      go_simp
      with_reducible rfl
    rotate_left
    · simp only [Act.put, List.setIfInBounds_toArray, List.set_cons_zero, List.set_cons_succ, i64_w, i32_w]
      rfl
    refine one_ (i := 20) (N := some 32) #[true, true, true, true, true, true, true, true, true, true, true, true, true, true, true, true, true, true, true, true, true, false, true, false, false, false, false, false, false, false, false, false] rfl rfl (one_of HT_.out (by kernel_rfl)) (by decide) (fun K hK => ?_)
    refine goes_ Try.func32 (by kernel_rfl) rfl #[.agg #[.int .u8 a2_0, .int .u8 a2_1, .int .u8 a2_2, .int .u8 a2_3, .int .u8 a2_4, .int .u8 a2_5, .int .u8 a2_6, .int .u8 a2_7]] (by rfl) rfl rfl (by (try simp only [List.map_toArray, List.map_cons, List.map_nil]); first | done | rfl | (simp only [List.length_drop, List.length_take]; rfl)) ?_
    with_reducible refine (expiry_Get.calls a2_0 a2_1 a2_2 a2_3 a2_4 a2_5 a2_6 a2_7 t209 t210 t211 t212 _ A47.out).mono ?_
    rintro e w70 ⟨rfl, hb⟩
    refine ⟨_, rfl, ?_⟩
    have n0_ := Aside0.mk (blk_below (g := gb156) (o := .cells #[.int .i16 a0_0, .int .i64 a0_1, .int .i64 a0_2, .int .i64 a0_3] 49 (0, 0)) (by (with_reducible repeat (first | refine blk_drewN ?_ _ | refine blk_drew ?_ | refine blk_alloc ?_ _)); exact BK156.out) hb)
    have n1_ := Aside0.mk (blk_below (g := gb157) (o := .cells #[.int .i64 a1_0, .int .i64 a1_1, .int .i64 a1_2] 50 (0, 0)) (by (with_reducible repeat (first | refine blk_drewN ?_ _ | refine blk_drew ?_ | refine blk_alloc ?_ _)); exact BK157.out) hb)
    have n2_ := Aside0.mk (blk_below (g := gb158) (o := .cells #[.int .u8 a2_0, .int .u8 a2_1, .int .u8 a2_2, .int .u8 a2_3, .int .u8 a2_4, .int .u8 a2_5, .int .u8 a2_6, .int .u8 a2_7] 71 (0, 0)) (by (with_reducible repeat (first | refine blk_drewN ?_ _ | refine blk_drew ?_ | refine blk_alloc ?_ _)); exact BK158.out) hb)
    have n3_ := Aside0.mk (blk_below (g := gb175) (o := .cells #[.int .i16 t171, .int .i64 t172, .int .i64 t173, .int .i64 t174] 46 (0, 0)) (by (with_reducible repeat (first | refine blk_drewN ?_ _ | refine blk_drew ?_ | refine blk_alloc ?_ _)); exact BK175.out) hb)
    have n4_ := Aside0.mk (below_step (by repeat (first | (with_reducible first | exact HB.out | apply below_alloc | apply pw_below_drewN | apply below_drew1 | refine below_set ?_ GE156.out | refine below_set ?_ GE157.out | refine below_set ?_ GE158.out | refine below_set ?_ GE175.out) | exact HB.out)) hb)
    clear BK156
    clear BK157
    clear BK158
    clear BK175
    clear HB
    have BK156 := n0_
    have BK157 := n1_
    have BK158 := n2_
    have BK175 := n3_
    have HB := n4_
    clear n0_ n1_ n2_ n3_ n4_
    (try clear hb)
    (try clear hb2)
    (try clear hk)
    (try clear hi)
    refine hK.out _ _ ⟨(blk_cell BK156.out 0).trans rfl, (blk_cell BK156.out 1).trans rfl, (blk_cell BK156.out 2).trans rfl, (blk_cell BK156.out 3).trans rfl, (blk_cell BK158.out 0).trans rfl, (blk_cell BK158.out 1).trans rfl, (blk_cell BK158.out 2).trans rfl, (blk_cell BK158.out 3).trans rfl, (blk_cell BK158.out 4).trans rfl, (blk_cell BK158.out 5).trans rfl, (blk_cell BK158.out 6).trans rfl, (blk_cell BK158.out 7).trans rfl, (blk_cell BK175.out 0).trans rfl, (blk_cell BK175.out 1).trans rfl, (blk_cell BK175.out 2).trans rfl, (blk_cell BK175.out 3).trans rfl⟩ (fun hHeld => ?_)
    clear hK K
    refine norm_ (a' := ?_) ?_ ?_
    rotate_left
    · show Act.put _ (some 32) _ = _
      simp only [Act.put, List.setIfInBounds_toArray, List.set_cons_zero, List.set_cons_succ, i64_w, i32_w]
      rfl
    refine one_ (i := 21) (N := some 33) #[true, true, true, true, true, true, true, true, true, true, true, true, true, true, true, true, true, true, true, true, true, true, true, false, false, false, false, false, false, false, false, false] rfl rfl (one_of HT_.out (by kernel_rfl)) (by decide) (fun K hK => ?_)
    refine goes_ Try.func33 (by kernel_rfl) rfl #[.agg #[.int .i16 t209, .int .i64 t210, .int .i64 t211, .int .i64 t212]] (by rfl) rfl rfl (by (try simp only [List.map_toArray, List.map_cons, List.map_nil]); first | done | rfl | (simp only [List.length_drop, List.length_take]; rfl)) ?_
    with_reducible refine (expiry_Put.calls t209 t210 t211 t212 t213 t214 t215 t216 t217 t218 t219 t220 _ A48.out).mono ?_
    rintro e w71 ⟨rfl, hb⟩
    refine ⟨_, rfl, ?_⟩
    have n0_ := Aside0.mk (blk_below (g := gb156) (o := .cells #[.int .i16 a0_0, .int .i64 a0_1, .int .i64 a0_2, .int .i64 a0_3] 49 (0, 0)) (by (with_reducible repeat (first | refine blk_drewN ?_ _ | refine blk_drew ?_ | refine blk_alloc ?_ _)); exact BK156.out) hb)
    have n1_ := Aside0.mk (blk_below (g := gb157) (o := .cells #[.int .i64 a1_0, .int .i64 a1_1, .int .i64 a1_2] 50 (0, 0)) (by (with_reducible repeat (first | refine blk_drewN ?_ _ | refine blk_drew ?_ | refine blk_alloc ?_ _)); exact BK157.out) hb)
    have n2_ := Aside0.mk (blk_below (g := gb158) (o := .cells #[.int .u8 a2_0, .int .u8 a2_1, .int .u8 a2_2, .int .u8 a2_3, .int .u8 a2_4, .int .u8 a2_5, .int .u8 a2_6, .int .u8 a2_7] 71 (0, 0)) (by (with_reducible repeat (first | refine blk_drewN ?_ _ | refine blk_drew ?_ | refine blk_alloc ?_ _)); exact BK158.out) hb)
    have n3_ := Aside0.mk (blk_below (g := gb175) (o := .cells #[.int .i16 t171, .int .i64 t172, .int .i64 t173, .int .i64 t174] 46 (0, 0)) (by (with_reducible repeat (first | refine blk_drewN ?_ _ | refine blk_drew ?_ | refine blk_alloc ?_ _)); exact BK175.out) hb)
    have n4_ := Aside0.mk (below_step (by repeat (first | (with_reducible first | exact HB.out | apply below_alloc | apply pw_below_drewN | apply below_drew1 | refine below_set ?_ GE156.out | refine below_set ?_ GE157.out | refine below_set ?_ GE158.out | refine below_set ?_ GE175.out) | exact HB.out)) hb)
    clear BK156
    clear BK157
    clear BK158
    clear BK175
    clear HB
    have BK156 := n0_
    have BK157 := n1_
    have BK158 := n2_
    have BK175 := n3_
    have HB := n4_
    clear n0_ n1_ n2_ n3_ n4_
    (try clear hb)
    (try clear hb2)
    (try clear hk)
    (try clear hi)
    refine hK.out _ _ ⟨(blk_cell BK156.out 0).trans rfl, (blk_cell BK156.out 1).trans rfl, (blk_cell BK156.out 2).trans rfl, (blk_cell BK156.out 3).trans rfl, (blk_cell BK158.out 0).trans rfl, (blk_cell BK158.out 1).trans rfl, (blk_cell BK158.out 2).trans rfl, (blk_cell BK158.out 3).trans rfl, (blk_cell BK158.out 4).trans rfl, (blk_cell BK158.out 5).trans rfl, (blk_cell BK158.out 6).trans rfl, (blk_cell BK158.out 7).trans rfl, (blk_cell BK175.out 0).trans rfl, (blk_cell BK175.out 1).trans rfl, (blk_cell BK175.out 2).trans rfl, (blk_cell BK175.out 3).trans rfl⟩ (fun hHeld => ?_)
    clear hK K
    refine norm_ (a' := ?_) ?_ ?_
    rotate_left
    · show Act.put _ (some 33) _ = _
      simp only [Act.put, List.setIfInBounds_toArray, List.set_cons_zero, List.set_cons_succ, i64_w, i32_w]
      rfl
    refine pure_ (i := 23) (N := some 35) (v := ?_) (a' := ?_) #[true, true, true, true, true, true, true, true, true, true, true, true, true, true, true, true, true, true, true, true, true, true, true, true, false, false, false, false, false, false, false, false] rfl rfl (any_of HT_.out (by kernel_rfl)) (fun _ _ _ h => h) (Or.inl ⟨by rfl, ?_⟩) ?_ ?_
    rotate_left
    · intro w'
      go_simp
      with_reducible rfl
    rotate_left
    · simp only [Act.put, List.setIfInBounds_toArray, List.set_cons_zero, List.set_cons_succ, i64_w, i32_w]
      rfl
    refine pure_ (i := 24) (N := some 36) (v := ?_) (a' := ?_) #[true, true, true, true, true, true, true, true, true, true, true, true, true, true, true, true, true, true, true, true, true, true, true, true, true, false, false, false, false, false, false, false] rfl rfl (any_of HT_.out (by kernel_rfl)) (fun _ _ _ h => h) (Or.inl ⟨by rfl, ?_⟩) ?_ ?_
    rotate_left
    · intro w'
      go_simp
      with_reducible rfl
    rotate_left
    · simp only [Act.put, List.setIfInBounds_toArray, List.set_cons_zero, List.set_cons_succ, i64_w, i32_w]
      rfl
    refine pure_ (i := 25) (N := some 37) (v := ?_) (a' := ?_) #[true, true, true, true, true, true, true, true, true, true, true, true, true, true, true, true, true, true, true, true, true, true, true, true, true, true, false, false, false, false, false, false] rfl rfl (any_of HT_.out (by kernel_rfl)) (fun _ _ _ h => h) (Or.inl ⟨by rfl, ?_⟩) ?_ ?_
    rotate_left
    · intro w'
      go_simp
      with_reducible rfl
    rotate_left
    · simp only [Act.put, List.setIfInBounds_toArray, List.set_cons_zero, List.set_cons_succ, i64_w, i32_w]
      rfl
    refine pure_ (i := 26) (N := some 38) (v := ?_) (a' := ?_) #[true, true, true, true, true, true, true, true, true, true, true, true, true, true, true, true, true, true, true, true, true, true, true, true, true, true, true, false, false, false, false, false] rfl rfl (any_of HT_.out (by kernel_rfl)) (fun _ _ _ h => h) (Or.inl ⟨by rfl, ?_⟩) ?_ ?_
    rotate_left
    · intro w'
      go_simp
      with_reducible rfl
    rotate_left
    · simp only [Act.put, List.setIfInBounds_toArray, List.set_cons_zero, List.set_cons_succ, i64_w, i32_w]
      rfl
    refine pure_ (i := 28) (N := some 40) (v := ?_) (a' := ?_) #[true, true, true, true, true, true, true, true, true, true, true, true, true, true, true, true, true, true, true, true, true, true, true, true, true, true, true, false, true, false, false, false] rfl rfl (any_of HT_.out (by kernel_rfl)) (fun _ _ _ h => h) (Or.inl ⟨by rfl, ?_⟩) ?_ ?_
    rotate_left
    · intro w'
      go_simp
      with_reducible rfl
    rotate_left
    · simp only [Act.put, List.setIfInBounds_toArray, List.set_cons_zero, List.set_cons_succ, i64_w, i32_w]
      rfl
    refine take_ (i := 27) (N := some 39) (v := ?_) (a' := ?_) #[true, true, true, true, true, true, true, true, true, true, true, true, true, true, true, true, true, true, true, true, true, true, true, true, true, true, true, true, true, false, false, false] rfl rfl (take_ofW HT_.out HW_.out (by kernel_rfl)) (fun _ _ _ h => h) (Or.inl ⟨by rfl, ?_⟩) hHeld ?_ ?_
    rotate_left
    · rintro w' ⟨s0, s1, s2, s3, s4, s5, s6, s7, s8, s9, s10, s11, s12, s13, s14, s15⟩
      go_simp
      with_reducible rfl
    rotate_left
    · simp only [Act.put, List.setIfInBounds_toArray, List.set_cons_zero, List.set_cons_succ, i64_w, i32_w]
      rfl
    refine take_ (i := 29) (N := some 41) (v := ?_) (a' := ?_) #[true, true, true, true, true, true, true, true, true, true, true, true, true, true, true, true, true, true, true, true, true, true, true, true, true, true, true, true, true, true, false, false] rfl rfl (take_ofW HT_.out HW_.out (by kernel_rfl)) (fun _ _ _ h => h) (Or.inl ⟨by rfl, ?_⟩) hHeld ?_ ?_
    rotate_left
    · rintro w' ⟨s0, s1, s2, s3, s4, s5, s6, s7, s8, s9, s10, s11, s12, s13, s14, s15⟩
      go_simp
      with_reducible rfl
    rotate_left
    · simp only [Act.put, List.setIfInBounds_toArray, List.set_cons_zero, List.set_cons_succ, i64_w, i32_w]
      rfl
    refine pure_ (i := 30) (N := some 42) (v := ?_) (a' := ?_) #[true, true, true, true, true, true, true, true, true, true, true, true, true, true, true, true, true, true, true, true, true, true, true, true, true, true, true, true, true, true, true, false] rfl rfl (any_of HT_.out (by kernel_rfl)) (fun _ _ _ h => h) (Or.inl ⟨by rfl, ?_⟩) ?_ ?_
    rotate_left
    · intro w'
      go_simp
      with_reducible rfl
    rotate_left
    · simp only [Act.put, List.setIfInBounds_toArray, List.set_cons_zero, List.set_cons_succ, i64_w, i32_w]
      rfl
    refine pure_ (i := 31) (N := some 43) (v := ?_) (a' := ?_) #[true, true, true, true, true, true, true, true, true, true, true, true, true, true, true, true, true, true, true, true, true, true, true, true, true, true, true, true, true, true, true, true] rfl rfl (any_of HT_.out (by kernel_rfl)) (fun _ _ _ h => h) (Or.inl ⟨by rfl, ?_⟩) ?_ ?_
    rotate_left
    · intro w'
      go_simp
      with_reducible rfl
    rotate_left
    · simp only [Act.put, List.setIfInBounds_toArray, List.set_cons_zero, List.set_cons_succ, i64_w, i32_w]
      rfl
    refine done_ (done_of HT_.out (by kernel_rfl)) ?_
    try go_wp2
    go_meet
    case rel => exact ⟨_, ((t171 != a0_0)), (by first | rfl | (simp; done) | (simp [*]; done)), H', ⟨by first | omega | exact Nat.le_refl _⟩, ⟨by (with_reducible repeat (first | refine blk_drewN ?_ _ | refine blk_drew ?_ | refine blk_alloc ?_ _)); exact BK156.out⟩, ⟨by (with_reducible repeat (first | refine blk_drewN ?_ _ | refine blk_drew ?_ | refine blk_alloc ?_ _)); exact BK157.out⟩, ⟨by (with_reducible repeat (first | refine blk_drewN ?_ _ | refine blk_drew ?_ | refine blk_alloc ?_ _)); exact BK158.out⟩, ⟨by (with_reducible repeat (first | refine blk_drewN ?_ _ | refine blk_drew ?_ | refine blk_alloc ?_ _)); exact BK175.out⟩, ⟨by repeat (first | (with_reducible first | exact HB.out | apply below_alloc | apply pw_below_drewN | apply below_drew1 | refine below_set ?_ GE156.out | refine below_set ?_ GE157.out | refine below_set ?_ GE158.out | refine below_set ?_ GE175.out) | exact HB.out)⟩⟩
  case rest =>
    clear HC7
    try clear c1
    try clear c2
    try clear p2
    try clear c3
    try clear c9
    try clear c19
    try clear c23
    try clear c32
    try clear c33
    try clear c34
    try clear c35
    obtain ⟨kq, x43_6, rfl, HA, HJ6, BK156, BK157, BK158, BK175, HB⟩ := hcut
    cases kq with
    | zero => exact absurd HA.out (by simp [tricklelaw41_ExpiryPut.j0])
    | succ kj6 =>
      have H := HA.out
      clear HA
      simp only [tricklelaw41_ExpiryPut.j0] at H
      by_cases c75 : x43_6 = true
      · subst c75
        have H1 : (some false) = some r := by rw [if_pos rfl] at H; exact H
        clear H
        have H := H1
        clear H1
        obtain rfl := Option.some.inj H
        go_wp2
        go_ret
        exact ⟨by first | rfl | (simp [errW_none, errW_some] <;> rfl) | (simp [*, errW_none, errW_some] <;> rfl), by repeat (first | (with_reducible first | exact HB.out | apply below_alloc | apply pw_below_drewN | apply below_drew1 | refine below_set ?_ GE156.out | refine below_set ?_ GE157.out | refine below_set ?_ GE158.out | refine below_set ?_ GE175.out) | exact HB.out)⟩
      · replace c75 := Bool.eq_false_iff.mpr c75
        subst c75
        have H1 : ((trickleref41_Valid.f a0_0 a0_1 a0_2 a0_3).bind fun t221 => (if t221 = true then ((tricklelaw41_now.f a1_0 a1_1 a1_2).bind fun bt222 => ((expiry_Fresh.f t171 t172 t173 t174 bt222.1 bt222.2.1 bt222.2.2 50).bind fun t225 => ((tricklelaw41_own.f a0_0 a0_1 a0_2 a0_3).bind fun bt226 => ((tricklelaw41_now.f a1_0 a1_1 a1_2).bind fun bt230 => ((expiry_Fresh.f bt226.1 bt226.2.1 bt226.2.2.1 bt226.2.2.2 bt230.1 bt230.2.1 bt230.2.2 50).bind fun t233 => (if (t225 == t233) = true then ((tricklelaw41_now.f a1_0 a1_1 a1_2).bind fun bt234 => ((expiry_Usable.f t171 t172 t173 t174 bt234.1 bt234.2.1 bt234.2.2 7 90).bind fun t237 => ((tricklelaw41_own.f a0_0 a0_1 a0_2 a0_3).bind fun bt238 => ((tricklelaw41_now.f a1_0 a1_1 a1_2).bind fun bt242 => ((expiry_Usable.f bt238.1 bt238.2.1 bt238.2.2.1 bt238.2.2.2 bt242.1 bt242.2.1 bt242.2.2 7 90).bind fun t245 => (some (t237 == t245))))))) else (some false))))))) else (some true))) = some r := by rw [if_neg (show ¬ (false = true) by decide)] at H; exact H
        clear H
        have H := H1
        clear H1
        replace H := Option.bind_eq_some_iff.mp H
        obtain ⟨t221, A760, H⟩ := H
        replace H : (if t221 = true then ((tricklelaw41_now.f a1_0 a1_1 a1_2).bind fun bt222 => ((expiry_Fresh.f t171 t172 t173 t174 bt222.1 bt222.2.1 bt222.2.2 50).bind fun t225 => ((tricklelaw41_own.f a0_0 a0_1 a0_2 a0_3).bind fun bt226 => ((tricklelaw41_now.f a1_0 a1_1 a1_2).bind fun bt230 => ((expiry_Fresh.f bt226.1 bt226.2.1 bt226.2.2.1 bt226.2.2.2 bt230.1 bt230.2.1 bt230.2.2 50).bind fun t233 => (if (t225 == t233) = true then ((tricklelaw41_now.f a1_0 a1_1 a1_2).bind fun bt234 => ((expiry_Usable.f t171 t172 t173 t174 bt234.1 bt234.2.1 bt234.2.2 7 90).bind fun t237 => ((tricklelaw41_own.f a0_0 a0_1 a0_2 a0_3).bind fun bt238 => ((tricklelaw41_now.f a1_0 a1_1 a1_2).bind fun bt242 => ((expiry_Usable.f bt238.1 bt238.2.1 bt238.2.2.1 bt238.2.2.2 bt242.1 bt242.2.1 bt242.2.2 7 90).bind fun t245 => (some (t237 == t245))))))) else (some false))))))) else (some true)) = some r := H
        have A76 := Aside0.mk A760
        clear A760
        by_cases c77 : t221 = true
        · subst c77
          have H1 : ((tricklelaw41_now.f a1_0 a1_1 a1_2).bind fun bt222 => ((expiry_Fresh.f t171 t172 t173 t174 bt222.1 bt222.2.1 bt222.2.2 50).bind fun t225 => ((tricklelaw41_own.f a0_0 a0_1 a0_2 a0_3).bind fun bt226 => ((tricklelaw41_now.f a1_0 a1_1 a1_2).bind fun bt230 => ((expiry_Fresh.f bt226.1 bt226.2.1 bt226.2.2.1 bt226.2.2.2 bt230.1 bt230.2.1 bt230.2.2 50).bind fun t233 => (if (t225 == t233) = true then ((tricklelaw41_now.f a1_0 a1_1 a1_2).bind fun bt234 => ((expiry_Usable.f t171 t172 t173 t174 bt234.1 bt234.2.1 bt234.2.2 7 90).bind fun t237 => ((tricklelaw41_own.f a0_0 a0_1 a0_2 a0_3).bind fun bt238 => ((tricklelaw41_now.f a1_0 a1_1 a1_2).bind fun bt242 => ((expiry_Usable.f bt238.1 bt238.2.1 bt238.2.2.1 bt238.2.2.2 bt242.1 bt242.2.1 bt242.2.2 7 90).bind fun t245 => (some (t237 == t245))))))) else (some false))))))) = some r := by rw [if_pos rfl] at H; exact H
          clear H
          have H := H1
          clear H1
          replace H := Option.bind_eq_some_iff.mp H
          obtain ⟨⟨t222, t223, t224⟩, A780, H⟩ := H
          replace H : ((expiry_Fresh.f t171 t172 t173 t174 t222 t223 t224 50).bind fun t225 => ((tricklelaw41_own.f a0_0 a0_1 a0_2 a0_3).bind fun bt226 => ((tricklelaw41_now.f a1_0 a1_1 a1_2).bind fun bt230 => ((expiry_Fresh.f bt226.1 bt226.2.1 bt226.2.2.1 bt226.2.2.2 bt230.1 bt230.2.1 bt230.2.2 50).bind fun t233 => (if (t225 == t233) = true then ((tricklelaw41_now.f a1_0 a1_1 a1_2).bind fun bt234 => ((expiry_Usable.f t171 t172 t173 t174 bt234.1 bt234.2.1 bt234.2.2 7 90).bind fun t237 => ((tricklelaw41_own.f a0_0 a0_1 a0_2 a0_3).bind fun bt238 => ((tricklelaw41_now.f a1_0 a1_1 a1_2).bind fun bt242 => ((expiry_Usable.f bt238.1 bt238.2.1 bt238.2.2.1 bt238.2.2.2 bt242.1 bt242.2.1 bt242.2.2 7 90).bind fun t245 => (some (t237 == t245))))))) else (some false)))))) = some r := H
          have A78 := Aside0.mk A780
          clear A780
          replace H := Option.bind_eq_some_iff.mp H
          obtain ⟨t225, A790, H⟩ := H
          replace H : ((tricklelaw41_own.f a0_0 a0_1 a0_2 a0_3).bind fun bt226 => ((tricklelaw41_now.f a1_0 a1_1 a1_2).bind fun bt230 => ((expiry_Fresh.f bt226.1 bt226.2.1 bt226.2.2.1 bt226.2.2.2 bt230.1 bt230.2.1 bt230.2.2 50).bind fun t233 => (if (t225 == t233) = true then ((tricklelaw41_now.f a1_0 a1_1 a1_2).bind fun bt234 => ((expiry_Usable.f t171 t172 t173 t174 bt234.1 bt234.2.1 bt234.2.2 7 90).bind fun t237 => ((tricklelaw41_own.f a0_0 a0_1 a0_2 a0_3).bind fun bt238 => ((tricklelaw41_now.f a1_0 a1_1 a1_2).bind fun bt242 => ((expiry_Usable.f bt238.1 bt238.2.1 bt238.2.2.1 bt238.2.2.2 bt242.1 bt242.2.1 bt242.2.2 7 90).bind fun t245 => (some (t237 == t245))))))) else (some false))))) = some r := H
          have A79 := Aside0.mk A790
          clear A790
          replace H := Option.bind_eq_some_iff.mp H
          obtain ⟨⟨t226, t227, t228, t229⟩, A800, H⟩ := H
          replace H : ((tricklelaw41_now.f a1_0 a1_1 a1_2).bind fun bt230 => ((expiry_Fresh.f t226 t227 t228 t229 bt230.1 bt230.2.1 bt230.2.2 50).bind fun t233 => (if (t225 == t233) = true then ((tricklelaw41_now.f a1_0 a1_1 a1_2).bind fun bt234 => ((expiry_Usable.f t171 t172 t173 t174 bt234.1 bt234.2.1 bt234.2.2 7 90).bind fun t237 => ((tricklelaw41_own.f a0_0 a0_1 a0_2 a0_3).bind fun bt238 => ((tricklelaw41_now.f a1_0 a1_1 a1_2).bind fun bt242 => ((expiry_Usable.f bt238.1 bt238.2.1 bt238.2.2.1 bt238.2.2.2 bt242.1 bt242.2.1 bt242.2.2 7 90).bind fun t245 => (some (t237 == t245))))))) else (some false)))) = some r := H
          have A80 := Aside0.mk A800
          clear A800
          replace H := Option.bind_eq_some_iff.mp H
          obtain ⟨⟨t230, t231, t232⟩, A810, H⟩ := H
          replace H : ((expiry_Fresh.f t226 t227 t228 t229 t230 t231 t232 50).bind fun t233 => (if (t225 == t233) = true then ((tricklelaw41_now.f a1_0 a1_1 a1_2).bind fun bt234 => ((expiry_Usable.f t171 t172 t173 t174 bt234.1 bt234.2.1 bt234.2.2 7 90).bind fun t237 => ((tricklelaw41_own.f a0_0 a0_1 a0_2 a0_3).bind fun bt238 => ((tricklelaw41_now.f a1_0 a1_1 a1_2).bind fun bt242 => ((expiry_Usable.f bt238.1 bt238.2.1 bt238.2.2.1 bt238.2.2.2 bt242.1 bt242.2.1 bt242.2.2 7 90).bind fun t245 => (some (t237 == t245))))))) else (some false))) = some r := H
          have A81 := Aside0.mk A810
          clear A810
          replace H := Option.bind_eq_some_iff.mp H
          obtain ⟨t233, A820, H⟩ := H
          replace H : (if (t225 == t233) = true then ((tricklelaw41_now.f a1_0 a1_1 a1_2).bind fun bt234 => ((expiry_Usable.f t171 t172 t173 t174 bt234.1 bt234.2.1 bt234.2.2 7 90).bind fun t237 => ((tricklelaw41_own.f a0_0 a0_1 a0_2 a0_3).bind fun bt238 => ((tricklelaw41_now.f a1_0 a1_1 a1_2).bind fun bt242 => ((expiry_Usable.f bt238.1 bt238.2.1 bt238.2.2.1 bt238.2.2.2 bt242.1 bt242.2.1 bt242.2.2 7 90).bind fun t245 => (some (t237 == t245))))))) else (some false)) = some r := H
          have A82 := Aside0.mk A820
          clear A820
          by_cases c83 : (t225 == t233) = true
          · rw [if_pos c83] at H
            have c83b0 : (t225 == t233) = true := c83
            (try (have c83b1 : decide (t225 = t233) = true := by simpa using c83))
            (try (have c83b2 : (t225 == t233) = true := by simpa using c83))
            clear c83
            replace H := Option.bind_eq_some_iff.mp H
            obtain ⟨⟨t234, t235, t236⟩, A840, H⟩ := H
            replace H : ((expiry_Usable.f t171 t172 t173 t174 t234 t235 t236 7 90).bind fun t237 => ((tricklelaw41_own.f a0_0 a0_1 a0_2 a0_3).bind fun bt238 => ((tricklelaw41_now.f a1_0 a1_1 a1_2).bind fun bt242 => ((expiry_Usable.f bt238.1 bt238.2.1 bt238.2.2.1 bt238.2.2.2 bt242.1 bt242.2.1 bt242.2.2 7 90).bind fun t245 => (some (t237 == t245)))))) = some r := H
            have A84 := Aside0.mk A840
            clear A840
            replace H := Option.bind_eq_some_iff.mp H
            obtain ⟨t237, A850, H⟩ := H
            replace H : ((tricklelaw41_own.f a0_0 a0_1 a0_2 a0_3).bind fun bt238 => ((tricklelaw41_now.f a1_0 a1_1 a1_2).bind fun bt242 => ((expiry_Usable.f bt238.1 bt238.2.1 bt238.2.2.1 bt238.2.2.2 bt242.1 bt242.2.1 bt242.2.2 7 90).bind fun t245 => (some (t237 == t245))))) = some r := H
            have A85 := Aside0.mk A850
            clear A850
            replace H := Option.bind_eq_some_iff.mp H
            obtain ⟨⟨t238, t239, t240, t241⟩, A860, H⟩ := H
            replace H : ((tricklelaw41_now.f a1_0 a1_1 a1_2).bind fun bt242 => ((expiry_Usable.f t238 t239 t240 t241 bt242.1 bt242.2.1 bt242.2.2 7 90).bind fun t245 => (some (t237 == t245)))) = some r := H
            have A86 := Aside0.mk A860
            clear A860
            replace H := Option.bind_eq_some_iff.mp H
            obtain ⟨⟨t242, t243, t244⟩, A870, H⟩ := H
            replace H : ((expiry_Usable.f t238 t239 t240 t241 t242 t243 t244 7 90).bind fun t245 => (some (t237 == t245))) = some r := H
            have A87 := Aside0.mk A870
            clear A870
            replace H := Option.bind_eq_some_iff.mp H
            obtain ⟨t245, A880, H⟩ := H
            replace H : (some (t237 == t245)) = some r := H
            have A88 := Aside0.mk A880
            clear A880
            obtain rfl := Option.some.inj H
            try go_wp2
            have n0_ := Aside0.mk (blk_drew BK156.out)
            have n1_ := Aside0.mk (blk_drew BK157.out)
            have n2_ := Aside0.mk (blk_drew BK158.out)
            have n3_ := Aside0.mk (blk_drew BK175.out)
            have n4_ := Aside0.mk (below_drew1 HB.out)
            clear BK156
            clear BK157
            clear BK158
            clear BK175
            clear HB
            have BK156 := n0_
            have BK157 := n1_
            have BK158 := n2_
            have BK175 := n3_
            have HB := n4_
            clear n0_ n1_ n2_ n3_ n4_
            refine start_ (n := 28) (S := fun w' => w'.cell? ⟨gb156, 0, none⟩ = some (.int .i16 a0_0) ∧ w'.cell? ⟨gb156, 1, none⟩ = some (.int .i64 a0_1) ∧ w'.cell? ⟨gb156, 2, none⟩ = some (.int .i64 a0_2) ∧ w'.cell? ⟨gb156, 3, none⟩ = some (.int .i64 a0_3) ∧ w'.cell? ⟨gb175, 0, none⟩ = some (.int .i16 t171) ∧ w'.cell? ⟨gb175, 1, none⟩ = some (.int .i64 t172) ∧ w'.cell? ⟨gb175, 2, none⟩ = some (.int .i64 t173) ∧ w'.cell? ⟨gb175, 3, none⟩ = some (.int .i64 t174) ∧ w'.cell? ⟨gb157, 0, none⟩ = some (.int .i64 a1_0) ∧ w'.cell? ⟨gb157, 1, none⟩ = some (.int .i64 a1_1) ∧ w'.cell? ⟨gb157, 2, none⟩ = some (.int .i64 a1_2)) (ds := []) #[false, false, false, false, false, false, false, false, false, false, false, false, false, false, false, false, false, false, false, false, false, false, false, false, false, false, false, false] (by kernel_rfl) rfl rfl ⟨(blk_cell BK156.out 0).trans rfl, (blk_cell BK156.out 1).trans rfl, (blk_cell BK156.out 2).trans rfl, (blk_cell BK156.out 3).trans rfl, (blk_cell BK175.out 0).trans rfl, (blk_cell BK175.out 1).trans rfl, (blk_cell BK175.out 2).trans rfl, (blk_cell BK175.out 3).trans rfl, (blk_cell BK157.out 0).trans rfl, (blk_cell BK157.out 1).trans rfl, (blk_cell BK157.out 2).trans rfl⟩ (fun hHeld => ?_); refine with_tabW tricklelaw41_ExpiryPut.tab4 tricklelaw41_ExpiryPut.bits4 (fun HT_ HW_ => ?_)
            generalize wc.drew = w89 at BK156 BK157 BK158 BK175 HB hHeld ⊢
            refine take_ (i := 0) (N := some 44) (v := ?_) (a' := ?_) #[true, false, false, false, false, false, false, false, false, false, false, false, false, false, false, false, false, false, false, false, false, false, false, false, false, false, false, false] rfl rfl (take_ofW HT_.out HW_.out (by kernel_rfl)) (fun _ _ _ h => h) (Or.inl ⟨by rfl, ?_⟩) hHeld ?_ ?_
            rotate_left
            · rintro w' ⟨s0, s1, s2, s3, s4, s5, s6, s7, s8, s9, s10⟩
              go_simp
              with_reducible rfl
            rotate_left
            · simp only [Act.put, List.setIfInBounds_toArray, List.set_cons_zero, List.set_cons_succ, i64_w, i32_w]
              rfl
            refine one_ (i := 1) (N := some 45) #[true, true, false, false, false, false, false, false, false, false, false, false, false, false, false, false, false, false, false, false, false, false, false, false, false, false, false, false] rfl rfl (one_of HT_.out (by kernel_rfl)) (by decide) (fun K hK => ?_)
            refine goes_ Try.func25 (by kernel_rfl) rfl #[.agg #[.int .i16 a0_0, .int .i64 a0_1, .int .i64 a0_2, .int .i64 a0_3]] (by rfl) rfl rfl (by (try simp only [List.map_toArray, List.map_cons, List.map_nil]); first | done | rfl | (simp only [List.length_drop, List.length_take]; rfl)) ?_
            with_reducible refine (trickleref41_Valid.calls a0_0 a0_1 a0_2 a0_3 true _ A76.out).mono ?_
            rintro e w90 ⟨rfl, hb⟩
            refine ⟨_, rfl, ?_⟩
            have n0_ := Aside0.mk (blk_below (g := gb156) (o := .cells #[.int .i16 a0_0, .int .i64 a0_1, .int .i64 a0_2, .int .i64 a0_3] 49 (0, 0)) (by (with_reducible repeat (first | refine blk_drewN ?_ _ | refine blk_drew ?_ | refine blk_alloc ?_ _)); exact BK156.out) hb)
            have n1_ := Aside0.mk (blk_below (g := gb157) (o := .cells #[.int .i64 a1_0, .int .i64 a1_1, .int .i64 a1_2] 50 (0, 0)) (by (with_reducible repeat (first | refine blk_drewN ?_ _ | refine blk_drew ?_ | refine blk_alloc ?_ _)); exact BK157.out) hb)
            have n2_ := Aside0.mk (blk_below (g := gb158) (o := .cells #[.int .u8 a2_0, .int .u8 a2_1, .int .u8 a2_2, .int .u8 a2_3, .int .u8 a2_4, .int .u8 a2_5, .int .u8 a2_6, .int .u8 a2_7] 71 (0, 0)) (by (with_reducible repeat (first | refine blk_drewN ?_ _ | refine blk_drew ?_ | refine blk_alloc ?_ _)); exact BK158.out) hb)
            have n3_ := Aside0.mk (blk_below (g := gb175) (o := .cells #[.int .i16 t171, .int .i64 t172, .int .i64 t173, .int .i64 t174] 46 (0, 0)) (by (with_reducible repeat (first | refine blk_drewN ?_ _ | refine blk_drew ?_ | refine blk_alloc ?_ _)); exact BK175.out) hb)
            have n4_ := Aside0.mk (below_step (by repeat (first | (with_reducible first | exact HB.out | apply below_alloc | apply pw_below_drewN | apply below_drew1 | refine below_set ?_ GE156.out | refine below_set ?_ GE157.out | refine below_set ?_ GE158.out | refine below_set ?_ GE175.out) | exact HB.out)) hb)
            clear BK156
            clear BK157
            clear BK158
            clear BK175
            clear HB
            have BK156 := n0_
            have BK157 := n1_
            have BK158 := n2_
            have BK175 := n3_
            have HB := n4_
            clear n0_ n1_ n2_ n3_ n4_
            (try clear hb)
            (try clear hb2)
            (try clear hk)
            (try clear hi)
            refine hK.out _ _ ⟨(blk_cell BK156.out 0).trans rfl, (blk_cell BK156.out 1).trans rfl, (blk_cell BK156.out 2).trans rfl, (blk_cell BK156.out 3).trans rfl, (blk_cell BK175.out 0).trans rfl, (blk_cell BK175.out 1).trans rfl, (blk_cell BK175.out 2).trans rfl, (blk_cell BK175.out 3).trans rfl, (blk_cell BK157.out 0).trans rfl, (blk_cell BK157.out 1).trans rfl, (blk_cell BK157.out 2).trans rfl⟩ (fun hHeld => ?_)
            clear hK K
            refine norm_ (a' := ?_) ?_ ?_
            rotate_left
            · show Act.put _ (some 45) _ = _
              simp only [Act.put, List.setIfInBounds_toArray, List.set_cons_zero, List.set_cons_succ, i64_w, i32_w]
              rfl
            refine pure_ (i := 2) (N := some 46) (v := ?_) (a' := ?_) #[true, true, true, false, false, false, false, false, false, false, false, false, false, false, false, false, false, false, false, false, false, false, false, false, false, false, false, false] rfl rfl (any_of HT_.out (by kernel_rfl)) (fun _ _ _ h => h) (Or.inl ⟨by rfl, ?_⟩) ?_ ?_
            rotate_left
            · intro w'
              go_simp
              with_reducible rfl
            rotate_left
            · simp only [Act.put, List.setIfInBounds_toArray, List.set_cons_zero, List.set_cons_succ, i64_w, i32_w]
              rfl
            refine pure_ (i := 3) (N := some 47) (v := ?_) (a' := ?_) #[true, true, true, true, false, false, false, false, false, false, false, false, false, false, false, false, false, false, false, false, false, false, false, false, false, false, false, false] rfl rfl (any_of HT_.out (by kernel_rfl)) (fun _ _ _ h => h) (Or.inl ⟨by rfl, ?_⟩) ?_ ?_
            rotate_left
            · intro w'
              go_simp
              with_reducible rfl
            rotate_left
            · simp only [Act.put, List.setIfInBounds_toArray, List.set_cons_zero, List.set_cons_succ, i64_w, i32_w]
              rfl
            refine take_ (i := 4) (N := some 48) (v := ?_) (a' := ?_) #[true, true, true, true, true, false, false, false, false, false, false, false, false, false, false, false, false, false, false, false, false, false, false, false, false, false, false, false] rfl rfl (take_ofW HT_.out HW_.out (by kernel_rfl)) (fun _ _ _ h => h) (Or.inl ⟨by rfl, ?_⟩) hHeld ?_ ?_
            rotate_left
            · rintro w' ⟨s0, s1, s2, s3, s4, s5, s6, s7, s8, s9, s10⟩
              go_simp
              with_reducible rfl
            rotate_left
            · simp only [Act.put, List.setIfInBounds_toArray, List.set_cons_zero, List.set_cons_succ, i64_w, i32_w]
              rfl
            refine take_ (i := 5) (N := some 49) (v := ?_) (a' := ?_) #[true, true, true, true, true, true, false, false, false, false, false, false, false, false, false, false, false, false, false, false, false, false, false, false, false, false, false, false] rfl rfl (take_ofW HT_.out HW_.out (by kernel_rfl)) (fun _ _ _ h => h) (Or.inl ⟨by rfl, ?_⟩) hHeld ?_ ?_
            rotate_left
            · rintro w' ⟨s0, s1, s2, s3, s4, s5, s6, s7, s8, s9, s10⟩
              go_simp
              with_reducible rfl
            rotate_left
            · simp only [Act.put, List.setIfInBounds_toArray, List.set_cons_zero, List.set_cons_succ, i64_w, i32_w]
              rfl
            refine take_ (i := 8) (N := some 52) (v := ?_) (a' := ?_) #[true, true, true, true, true, true, false, false, true, false, false, false, false, false, false, false, false, false, false, false, false, false, false, false, false, false, false, false] rfl rfl (take_ofW HT_.out HW_.out (by kernel_rfl)) (fun _ _ _ h => h) (Or.inl ⟨by rfl, ?_⟩) hHeld ?_ ?_
            rotate_left
            · rintro w' ⟨s0, s1, s2, s3, s4, s5, s6, s7, s8, s9, s10⟩
              go_simp
              with_reducible rfl
            rotate_left
            · simp only [Act.put, List.setIfInBounds_toArray, List.set_cons_zero, List.set_cons_succ, i64_w, i32_w]
              rfl
            refine take_ (i := 10) (N := some 54) (v := ?_) (a' := ?_) #[true, true, true, true, true, true, false, false, true, false, true, false, false, false, false, false, false, false, false, false, false, false, false, false, false, false, false, false] rfl rfl (take_ofW HT_.out HW_.out (by kernel_rfl)) (fun _ _ _ h => h) (Or.inl ⟨by rfl, ?_⟩) hHeld ?_ ?_
            rotate_left
            · rintro w' ⟨s0, s1, s2, s3, s4, s5, s6, s7, s8, s9, s10⟩
              go_simp
              with_reducible rfl
            rotate_left
            · simp only [Act.put, List.setIfInBounds_toArray, List.set_cons_zero, List.set_cons_succ, i64_w, i32_w]
              rfl
            refine one_ (i := 6) (N := some 50) #[true, true, true, true, true, true, true, false, true, false, true, false, false, false, false, false, false, false, false, false, false, false, false, false, false, false, false, false] rfl rfl (one_of HT_.out (by kernel_rfl)) (by decide) (fun K hK => ?_)
            refine goes_ Try.func20 (by kernel_rfl) rfl #[.agg #[.int .i64 a1_0, .int .i64 a1_1, .int .i64 a1_2]] (by rfl) rfl rfl (by (try simp only [List.map_toArray, List.map_cons, List.map_nil]); first | done | rfl | (simp only [List.length_drop, List.length_take]; rfl)) ?_
            with_reducible refine (tricklelaw41_now.calls a1_0 a1_1 a1_2 t222 t223 t224 _ A78.out).mono ?_
            rintro e w91 ⟨rfl, hb⟩
            refine ⟨_, rfl, ?_⟩
            have n0_ := Aside0.mk (blk_below (g := gb156) (o := .cells #[.int .i16 a0_0, .int .i64 a0_1, .int .i64 a0_2, .int .i64 a0_3] 49 (0, 0)) (by (with_reducible repeat (first | refine blk_drewN ?_ _ | refine blk_drew ?_ | refine blk_alloc ?_ _)); exact BK156.out) hb)
            have n1_ := Aside0.mk (blk_below (g := gb157) (o := .cells #[.int .i64 a1_0, .int .i64 a1_1, .int .i64 a1_2] 50 (0, 0)) (by (with_reducible repeat (first | refine blk_drewN ?_ _ | refine blk_drew ?_ | refine blk_alloc ?_ _)); exact BK157.out) hb)
            have n2_ := Aside0.mk (blk_below (g := gb158) (o := .cells #[.int .u8 a2_0, .int .u8 a2_1, .int .u8 a2_2, .int .u8 a2_3, .int .u8 a2_4, .int .u8 a2_5, .int .u8 a2_6, .int .u8 a2_7] 71 (0, 0)) (by (with_reducible repeat (first | refine blk_drewN ?_ _ | refine blk_drew ?_ | refine blk_alloc ?_ _)); exact BK158.out) hb)
            have n3_ := Aside0.mk (blk_below (g := gb175) (o := .cells #[.int .i16 t171, .int .i64 t172, .int .i64 t173, .int .i64 t174] 46 (0, 0)) (by (with_reducible repeat (first | refine blk_drewN ?_ _ | refine blk_drew ?_ | refine blk_alloc ?_ _)); exact BK175.out) hb)
            have n4_ := Aside0.mk (below_step (by repeat (first | (with_reducible first | exact HB.out | apply below_alloc | apply pw_below_drewN | apply below_drew1 | refine below_set ?_ GE156.out | refine below_set ?_ GE157.out | refine below_set ?_ GE158.out | refine below_set ?_ GE175.out) | exact HB.out)) hb)
            clear BK156
            clear BK157
            clear BK158
            clear BK175
            clear HB
            have BK156 := n0_
            have BK157 := n1_
            have BK158 := n2_
            have BK175 := n3_
            have HB := n4_
            clear n0_ n1_ n2_ n3_ n4_
            (try clear hb)
            (try clear hb2)
            (try clear hk)
            (try clear hi)
            refine hK.out _ _ ⟨(blk_cell BK156.out 0).trans rfl, (blk_cell BK156.out 1).trans rfl, (blk_cell BK156.out 2).trans rfl, (blk_cell BK156.out 3).trans rfl, (blk_cell BK175.out 0).trans rfl, (blk_cell BK175.out 1).trans rfl, (blk_cell BK175.out 2).trans rfl, (blk_cell BK175.out 3).trans rfl, (blk_cell BK157.out 0).trans rfl, (blk_cell BK157.out 1).trans rfl, (blk_cell BK157.out 2).trans rfl⟩ (fun hHeld => ?_)
            clear hK K
            refine norm_ (a' := ?_) ?_ ?_
            rotate_left
            · show Act.put _ (some 50) _ = _
              simp only [Act.put, List.setIfInBounds_toArray, List.set_cons_zero, List.set_cons_succ, i64_w, i32_w]
              rfl
            refine one_ (i := 7) (N := some 51) #[true, true, true, true, true, true, true, true, true, false, true, false, false, false, false, false, false, false, false, false, false, false, false, false, false, false, false, false] rfl rfl (one_of HT_.out (by kernel_rfl)) (by decide) (fun K hK => ?_)
            refine goes_ Try.func17 (by kernel_rfl) rfl #[.agg #[.int .i16 t171, .int .i64 t172, .int .i64 t173, .int .i64 t174], .agg #[.int .i64 t222, .int .i64 t223, .int .i64 t224], .int .i64 50] (by rfl) rfl rfl (by (try simp only [List.map_toArray, List.map_cons, List.map_nil]); first | done | rfl | (simp only [List.length_drop, List.length_take]; rfl)) ?_
            with_reducible refine (expiry_Fresh.calls t171 t172 t173 t174 t222 t223 t224 50 t225 _ A79.out).mono ?_
            rintro e w92 ⟨rfl, hb⟩
            refine ⟨_, rfl, ?_⟩
            have n0_ := Aside0.mk (blk_below (g := gb156) (o := .cells #[.int .i16 a0_0, .int .i64 a0_1, .int .i64 a0_2, .int .i64 a0_3] 49 (0, 0)) (by (with_reducible repeat (first | refine blk_drewN ?_ _ | refine blk_drew ?_ | refine blk_alloc ?_ _)); exact BK156.out) hb)
            have n1_ := Aside0.mk (blk_below (g := gb157) (o := .cells #[.int .i64 a1_0, .int .i64 a1_1, .int .i64 a1_2] 50 (0, 0)) (by (with_reducible repeat (first | refine blk_drewN ?_ _ | refine blk_drew ?_ | refine blk_alloc ?_ _)); exact BK157.out) hb)
            have n2_ := Aside0.mk (blk_below (g := gb158) (o := .cells #[.int .u8 a2_0, .int .u8 a2_1, .int .u8 a2_2, .int .u8 a2_3, .int .u8 a2_4, .int .u8 a2_5, .int .u8 a2_6, .int .u8 a2_7] 71 (0, 0)) (by (with_reducible repeat (first | refine blk_drewN ?_ _ | refine blk_drew ?_ | refine blk_alloc ?_ _)); exact BK158.out) hb)
            have n3_ := Aside0.mk (blk_below (g := gb175) (o := .cells #[.int .i16 t171, .int .i64 t172, .int .i64 t173, .int .i64 t174] 46 (0, 0)) (by (with_reducible repeat (first | refine blk_drewN ?_ _ | refine blk_drew ?_ | refine blk_alloc ?_ _)); exact BK175.out) hb)
            have n4_ := Aside0.mk (below_step (by repeat (first | (with_reducible first | exact HB.out | apply below_alloc | apply pw_below_drewN | apply below_drew1 | refine below_set ?_ GE156.out | refine below_set ?_ GE157.out | refine below_set ?_ GE158.out | refine below_set ?_ GE175.out) | exact HB.out)) hb)
            clear BK156
            clear BK157
            clear BK158
            clear BK175
            clear HB
            have BK156 := n0_
            have BK157 := n1_
            have BK158 := n2_
            have BK175 := n3_
            have HB := n4_
            clear n0_ n1_ n2_ n3_ n4_
            (try clear hb)
            (try clear hb2)
            (try clear hk)
            (try clear hi)
            refine hK.out _ _ ⟨(blk_cell BK156.out 0).trans rfl, (blk_cell BK156.out 1).trans rfl, (blk_cell BK156.out 2).trans rfl, (blk_cell BK156.out 3).trans rfl, (blk_cell BK175.out 0).trans rfl, (blk_cell BK175.out 1).trans rfl, (blk_cell BK175.out 2).trans rfl, (blk_cell BK175.out 3).trans rfl, (blk_cell BK157.out 0).trans rfl, (blk_cell BK157.out 1).trans rfl, (blk_cell BK157.out 2).trans rfl⟩ (fun hHeld => ?_)
            clear hK K
            refine norm_ (a' := ?_) ?_ ?_
            rotate_left
            · show Act.put _ (some 51) _ = _
              simp only [Act.put, List.setIfInBounds_toArray, List.set_cons_zero, List.set_cons_succ, i64_w, i32_w]
              rfl
            refine one_ (i := 9) (N := some 53) #[true, true, true, true, true, true, true, true, true, true, true, false, false, false, false, false, false, false, false, false, false, false, false, false, false, false, false, false] rfl rfl (one_of HT_.out (by kernel_rfl)) (by decide) (fun K hK => ?_)
            refine goes_ Try.func19 (by kernel_rfl) rfl #[.agg #[.int .i16 a0_0, .int .i64 a0_1, .int .i64 a0_2, .int .i64 a0_3]] (by rfl) rfl rfl (by (try simp only [List.map_toArray, List.map_cons, List.map_nil]); first | done | rfl | (simp only [List.length_drop, List.length_take]; rfl)) ?_
            with_reducible refine (tricklelaw41_own.calls a0_0 a0_1 a0_2 a0_3 t226 t227 t228 t229 _ A80.out).mono ?_
            rintro e w93 ⟨rfl, hb⟩
            refine ⟨_, rfl, ?_⟩
            have n0_ := Aside0.mk (blk_below (g := gb156) (o := .cells #[.int .i16 a0_0, .int .i64 a0_1, .int .i64 a0_2, .int .i64 a0_3] 49 (0, 0)) (by (with_reducible repeat (first | refine blk_drewN ?_ _ | refine blk_drew ?_ | refine blk_alloc ?_ _)); exact BK156.out) hb)
            have n1_ := Aside0.mk (blk_below (g := gb157) (o := .cells #[.int .i64 a1_0, .int .i64 a1_1, .int .i64 a1_2] 50 (0, 0)) (by (with_reducible repeat (first | refine blk_drewN ?_ _ | refine blk_drew ?_ | refine blk_alloc ?_ _)); exact BK157.out) hb)
            have n2_ := Aside0.mk (blk_below (g := gb158) (o := .cells #[.int .u8 a2_0, .int .u8 a2_1, .int .u8 a2_2, .int .u8 a2_3, .int .u8 a2_4, .int .u8 a2_5, .int .u8 a2_6, .int .u8 a2_7] 71 (0, 0)) (by (with_reducible repeat (first | refine blk_drewN ?_ _ | refine blk_drew ?_ | refine blk_alloc ?_ _)); exact BK158.out) hb)
            have n3_ := Aside0.mk (blk_below (g := gb175) (o := .cells #[.int .i16 t171, .int .i64 t172, .int .i64 t173, .int .i64 t174] 46 (0, 0)) (by (with_reducible repeat (first | refine blk_drewN ?_ _ | refine blk_drew ?_ | refine blk_alloc ?_ _)); exact BK175.out) hb)
            have n4_ := Aside0.mk (below_step (by repeat (first | (with_reducible first | exact HB.out | apply below_alloc | apply pw_below_drewN | apply below_drew1 | refine below_set ?_ GE156.out | refine below_set ?_ GE157.out | refine below_set ?_ GE158.out | refine below_set ?_ GE175.out) | exact HB.out)) hb)
            clear BK156
            clear BK157
            clear BK158
            clear BK175
            clear HB
            have BK156 := n0_
            have BK157 := n1_
            have BK158 := n2_
            have BK175 := n3_
            have HB := n4_
            clear n0_ n1_ n2_ n3_ n4_
            (try clear hb)
            (try clear hb2)
            (try clear hk)
            (try clear hi)
            refine hK.out _ _ ⟨(blk_cell BK156.out 0).trans rfl, (blk_cell BK156.out 1).trans rfl, (blk_cell BK156.out 2).trans rfl, (blk_cell BK156.out 3).trans rfl, (blk_cell BK175.out 0).trans rfl, (blk_cell BK175.out 1).trans rfl, (blk_cell BK175.out 2).trans rfl, (blk_cell BK175.out 3).trans rfl, (blk_cell BK157.out 0).trans rfl, (blk_cell BK157.out 1).trans rfl, (blk_cell BK157.out 2).trans rfl⟩ (fun hHeld => ?_)
            clear hK K
            refine norm_ (a' := ?_) ?_ ?_
            rotate_left
            · show Act.put _ (some 53) _ = _
              simp only [Act.put, List.setIfInBounds_toArray, List.set_cons_zero, List.set_cons_succ, i64_w, i32_w]
              rfl
            refine one_ (i := 11) (N := some 55) #[true, true, true, true, true, true, true, true, true, true, true, true, false, false, false, false, false, false, false, false, false, false, false, false, false, false, false, false] rfl rfl (one_of HT_.out (by kernel_rfl)) (by decide) (fun K hK => ?_)
            refine goes_ Try.func20 (by kernel_rfl) rfl #[.agg #[.int .i64 a1_0, .int .i64 a1_1, .int .i64 a1_2]] (by rfl) rfl rfl (by (try simp only [List.map_toArray, List.map_cons, List.map_nil]); first | done | rfl | (simp only [List.length_drop, List.length_take]; rfl)) ?_
            with_reducible refine (tricklelaw41_now.calls a1_0 a1_1 a1_2 t230 t231 t232 _ A81.out).mono ?_
            rintro e w94 ⟨rfl, hb⟩
            refine ⟨_, rfl, ?_⟩
            have n0_ := Aside0.mk (blk_below (g := gb156) (o := .cells #[.int .i16 a0_0, .int .i64 a0_1, .int .i64 a0_2, .int .i64 a0_3] 49 (0, 0)) (by (with_reducible repeat (first | refine blk_drewN ?_ _ | refine blk_drew ?_ | refine blk_alloc ?_ _)); exact BK156.out) hb)
            have n1_ := Aside0.mk (blk_below (g := gb157) (o := .cells #[.int .i64 a1_0, .int .i64 a1_1, .int .i64 a1_2] 50 (0, 0)) (by (with_reducible repeat (first | refine blk_drewN ?_ _ | refine blk_drew ?_ | refine blk_alloc ?_ _)); exact BK157.out) hb)
            have n2_ := Aside0.mk (blk_below (g := gb158) (o := .cells #[.int .u8 a2_0, .int .u8 a2_1, .int .u8 a2_2, .int .u8 a2_3, .int .u8 a2_4, .int .u8 a2_5, .int .u8 a2_6, .int .u8 a2_7] 71 (0, 0)) (by (with_reducible repeat (first | refine blk_drewN ?_ _ | refine blk_drew ?_ | refine blk_alloc ?_ _)); exact BK158.out) hb)
            have n3_ := Aside0.mk (blk_below (g := gb175) (o := .cells #[.int .i16 t171, .int .i64 t172, .int .i64 t173, .int .i64 t174] 46 (0, 0)) (by (with_reducible repeat (first | refine blk_drewN ?_ _ | refine blk_drew ?_ | refine blk_alloc ?_ _)); exact BK175.out) hb)
            have n4_ := Aside0.mk (below_step (by repeat (first | (with_reducible first | exact HB.out | apply below_alloc | apply pw_below_drewN | apply below_drew1 | refine below_set ?_ GE156.out | refine below_set ?_ GE157.out | refine below_set ?_ GE158.out | refine below_set ?_ GE175.out) | exact HB.out)) hb)
            clear BK156
            clear BK157
            clear BK158
            clear BK175
            clear HB
            have BK156 := n0_
            have BK157 := n1_
            have BK158 := n2_
            have BK175 := n3_
            have HB := n4_
            clear n0_ n1_ n2_ n3_ n4_
            (try clear hb)
            (try clear hb2)
            (try clear hk)
            (try clear hi)
            refine hK.out _ _ ⟨(blk_cell BK156.out 0).trans rfl, (blk_cell BK156.out 1).trans rfl, (blk_cell BK156.out 2).trans rfl, (blk_cell BK156.out 3).trans rfl, (blk_cell BK175.out 0).trans rfl, (blk_cell BK175.out 1).trans rfl, (blk_cell BK175.out 2).trans rfl, (blk_cell BK175.out 3).trans rfl, (blk_cell BK157.out 0).trans rfl, (blk_cell BK157.out 1).trans rfl, (blk_cell BK157.out 2).trans rfl⟩ (fun hHeld => ?_)
            clear hK K
            refine norm_ (a' := ?_) ?_ ?_
            rotate_left
            · show Act.put _ (some 55) _ = _
              simp only [Act.put, List.setIfInBounds_toArray, List.set_cons_zero, List.set_cons_succ, i64_w, i32_w]
              rfl
            refine one_ (i := 12) (N := some 56) #[true, true, true, true, true, true, true, true, true, true, true, true, true, false, false, false, false, false, false, false, false, false, false, false, false, false, false, false] rfl rfl (one_of HT_.out (by kernel_rfl)) (by decide) (fun K hK => ?_)
            refine goes_ Try.func17 (by kernel_rfl) rfl #[.agg #[.int .i16 t226, .int .i64 t227, .int .i64 t228, .int .i64 t229], .agg #[.int .i64 t230, .int .i64 t231, .int .i64 t232], .int .i64 50] (by rfl) rfl rfl (by (try simp only [List.map_toArray, List.map_cons, List.map_nil]); first | done | rfl | (simp only [List.length_drop, List.length_take]; rfl)) ?_
            with_reducible refine (expiry_Fresh.calls t226 t227 t228 t229 t230 t231 t232 50 t233 _ A82.out).mono ?_
            rintro e w95 ⟨rfl, hb⟩
            refine ⟨_, rfl, ?_⟩
            have n0_ := Aside0.mk (blk_below (g := gb156) (o := .cells #[.int .i16 a0_0, .int .i64 a0_1, .int .i64 a0_2, .int .i64 a0_3] 49 (0, 0)) (by (with_reducible repeat (first | refine blk_drewN ?_ _ | refine blk_drew ?_ | refine blk_alloc ?_ _)); exact BK156.out) hb)
            have n1_ := Aside0.mk (blk_below (g := gb157) (o := .cells #[.int .i64 a1_0, .int .i64 a1_1, .int .i64 a1_2] 50 (0, 0)) (by (with_reducible repeat (first | refine blk_drewN ?_ _ | refine blk_drew ?_ | refine blk_alloc ?_ _)); exact BK157.out) hb)
            have n2_ := Aside0.mk (blk_below (g := gb158) (o := .cells #[.int .u8 a2_0, .int .u8 a2_1, .int .u8 a2_2, .int .u8 a2_3, .int .u8 a2_4, .int .u8 a2_5, .int .u8 a2_6, .int .u8 a2_7] 71 (0, 0)) (by (with_reducible repeat (first | refine blk_drewN ?_ _ | refine blk_drew ?_ | refine blk_alloc ?_ _)); exact BK158.out) hb)
            have n3_ := Aside0.mk (blk_below (g := gb175) (o := .cells #[.int .i16 t171, .int .i64 t172, .int .i64 t173, .int .i64 t174] 46 (0, 0)) (by (with_reducible repeat (first | refine blk_drewN ?_ _ | refine blk_drew ?_ | refine blk_alloc ?_ _)); exact BK175.out) hb)
            have n4_ := Aside0.mk (below_step (by repeat (first | (with_reducible first | exact HB.out | apply below_alloc | apply pw_below_drewN | apply below_drew1 | refine below_set ?_ GE156.out | refine below_set ?_ GE157.out | refine below_set ?_ GE158.out | refine below_set ?_ GE175.out) | exact HB.out)) hb)
            clear BK156
            clear BK157
            clear BK158
            clear BK175
            clear HB
            have BK156 := n0_
            have BK157 := n1_
            have BK158 := n2_
            have BK175 := n3_
            have HB := n4_
            clear n0_ n1_ n2_ n3_ n4_
            (try clear hb)
            (try clear hb2)
            (try clear hk)
            (try clear hi)
            refine hK.out _ _ ⟨(blk_cell BK156.out 0).trans rfl, (blk_cell BK156.out 1).trans rfl, (blk_cell BK156.out 2).trans rfl, (blk_cell BK156.out 3).trans rfl, (blk_cell BK175.out 0).trans rfl, (blk_cell BK175.out 1).trans rfl, (blk_cell BK175.out 2).trans rfl, (blk_cell BK175.out 3).trans rfl, (blk_cell BK157.out 0).trans rfl, (blk_cell BK157.out 1).trans rfl, (blk_cell BK157.out 2).trans rfl⟩ (fun hHeld => ?_)
            clear hK K
            refine norm_ (a' := ?_) ?_ ?_
            rotate_left
            · show Act.put _ (some 56) _ = _
              simp only [Act.put, List.setIfInBounds_toArray, List.set_cons_zero, List.set_cons_succ, i64_w, i32_w]
              rfl
            refine pure_ (i := 13) (N := some 57) (v := ?_) (a' := ?_) #[true, true, true, true, true, true, true, true, true, true, true, true, true, true, false, false, false, false, false, false, false, false, false, false, false, false, false, false] rfl rfl (any_of HT_.out (by kernel_rfl)) (fun _ _ _ h => h) (Or.inl ⟨by rfl, ?_⟩) ?_ ?_
            rotate_left
            · intro w'
              go_simp
              with_reducible rfl
            rotate_left
            · simp only [Act.put, List.setIfInBounds_toArray, List.set_cons_zero, List.set_cons_succ, i64_w, i32_w]
              rfl
            refine pure_ (i := 14) (N := some 58) (v := ?_) (a' := ?_) #[true, true, true, true, true, true, true, true, true, true, true, true, true, true, true, false, false, false, false, false, false, false, false, false, false, false, false, false] rfl rfl (any_of HT_.out (by kernel_rfl)) (fun _ _ _ h => h) (Or.inl ⟨by rfl, ?_⟩) ?_ ?_
            rotate_left
            · intro w'
              go_simp
              with_reducible rfl
            rotate_left
            · simp only [Act.put, List.setIfInBounds_toArray, List.set_cons_zero, List.set_cons_succ, i64_w, i32_w]
              rfl
            refine take_ (i := 15) (N := some 59) (v := ?_) (a' := ?_) #[true, true, true, true, true, true, true, true, true, true, true, true, true, true, true, true, false, false, false, false, false, false, false, false, false, false, false, false] rfl rfl (take_ofW HT_.out HW_.out (by kernel_rfl)) (fun _ _ _ h => h) (Or.inl ⟨by rfl, ?_⟩) hHeld ?_ ?_
            rotate_left
            · rintro w' ⟨s0, s1, s2, s3, s4, s5, s6, s7, s8, s9, s10⟩
              go_simp
              with_reducible rfl
            rotate_left
            · simp only [Act.put, List.setIfInBounds_toArray, List.set_cons_zero, List.set_cons_succ, i64_w, i32_w]
              rfl
            refine take_ (i := 16) (N := some 60) (v := ?_) (a' := ?_) #[true, true, true, true, true, true, true, true, true, true, true, true, true, true, true, true, true, false, false, false, false, false, false, false, false, false, false, false] rfl rfl (take_ofW HT_.out HW_.out (by kernel_rfl)) (fun _ _ _ h => h) (Or.inl ⟨by rfl, ?_⟩) hHeld ?_ ?_
            rotate_left
            · rintro w' ⟨s0, s1, s2, s3, s4, s5, s6, s7, s8, s9, s10⟩
              go_simp
              with_reducible rfl
            rotate_left
            · simp only [Act.put, List.setIfInBounds_toArray, List.set_cons_zero, List.set_cons_succ, i64_w, i32_w]
              rfl
            refine take_ (i := 19) (N := some 63) (v := ?_) (a' := ?_) #[true, true, true, true, true, true, true, true, true, true, true, true, true, true, true, true, true, false, false, true, false, false, false, false, false, false, false, false] rfl rfl (take_ofW HT_.out HW_.out (by kernel_rfl)) (fun _ _ _ h => h) (Or.inl ⟨by rfl, ?_⟩) hHeld ?_ ?_
            rotate_left
            · rintro w' ⟨s0, s1, s2, s3, s4, s5, s6, s7, s8, s9, s10⟩
              go_simp
              with_reducible rfl
            rotate_left
            · simp only [Act.put, List.setIfInBounds_toArray, List.set_cons_zero, List.set_cons_succ, i64_w, i32_w]
              rfl
            refine take_ (i := 21) (N := some 65) (v := ?_) (a' := ?_) #[true, true, true, true, true, true, true, true, true, true, true, true, true, true, true, true, true, false, false, true, false, true, false, false, false, false, false, false] rfl rfl (take_ofW HT_.out HW_.out (by kernel_rfl)) (fun _ _ _ h => h) (Or.inl ⟨by rfl, ?_⟩) hHeld ?_ ?_
            rotate_left
            · rintro w' ⟨s0, s1, s2, s3, s4, s5, s6, s7, s8, s9, s10⟩
              go_simp
              with_reducible rfl
            rotate_left
            · simp only [Act.put, List.setIfInBounds_toArray, List.set_cons_zero, List.set_cons_succ, i64_w, i32_w]
              rfl
            refine one_ (i := 17) (N := some 61) #[true, true, true, true, true, true, true, true, true, true, true, true, true, true, true, true, true, true, false, true, false, true, false, false, false, false, false, false] rfl rfl (one_of HT_.out (by kernel_rfl)) (by decide) (fun K hK => ?_)
            refine goes_ Try.func20 (by kernel_rfl) rfl #[.agg #[.int .i64 a1_0, .int .i64 a1_1, .int .i64 a1_2]] (by rfl) rfl rfl (by (try simp only [List.map_toArray, List.map_cons, List.map_nil]); first | done | rfl | (simp only [List.length_drop, List.length_take]; rfl)) ?_
            with_reducible refine (tricklelaw41_now.calls a1_0 a1_1 a1_2 t234 t235 t236 _ A84.out).mono ?_
            rintro e w96 ⟨rfl, hb⟩
            refine ⟨_, rfl, ?_⟩
            have n0_ := Aside0.mk (blk_below (g := gb156) (o := .cells #[.int .i16 a0_0, .int .i64 a0_1, .int .i64 a0_2, .int .i64 a0_3] 49 (0, 0)) (by (with_reducible repeat (first | refine blk_drewN ?_ _ | refine blk_drew ?_ | refine blk_alloc ?_ _)); exact BK156.out) hb)
            have n1_ := Aside0.mk (blk_below (g := gb157) (o := .cells #[.int .i64 a1_0, .int .i64 a1_1, .int .i64 a1_2] 50 (0, 0)) (by (with_reducible repeat (first | refine blk_drewN ?_ _ | refine blk_drew ?_ | refine blk_alloc ?_ _)); exact BK157.out) hb)
            have n2_ := Aside0.mk (blk_below (g := gb158) (o := .cells #[.int .u8 a2_0, .int .u8 a2_1, .int .u8 a2_2, .int .u8 a2_3, .int .u8 a2_4, .int .u8 a2_5, .int .u8 a2_6, .int .u8 a2_7] 71 (0, 0)) (by (with_reducible repeat (first | refine blk_drewN ?_ _ | refine blk_drew ?_ | refine blk_alloc ?_ _)); exact BK158.out) hb)
            have n3_ := Aside0.mk (blk_below (g := gb175) (o := .cells #[.int .i16 t171, .int .i64 t172, .int .i64 t173, .int .i64 t174] 46 (0, 0)) (by (with_reducible repeat (first | refine blk_drewN ?_ _ | refine blk_drew ?_ | refine blk_alloc ?_ _)); exact BK175.out) hb)
            have n4_ := Aside0.mk (below_step (by repeat (first | (with_reducible first | exact HB.out | apply below_alloc | apply pw_below_drewN | apply below_drew1 | refine below_set ?_ GE156.out | refine below_set ?_ GE157.out | refine below_set ?_ GE158.out | refine below_set ?_ GE175.out) | exact HB.out)) hb)
            clear BK156
            clear BK157
            clear BK158
            clear BK175
            clear HB
            have BK156 := n0_
            have BK157 := n1_
            have BK158 := n2_
            have BK175 := n3_
            have HB := n4_
            clear n0_ n1_ n2_ n3_ n4_
            (try clear hb)
            (try clear hb2)
            (try clear hk)
            (try clear hi)
            refine hK.out _ _ ⟨(blk_cell BK156.out 0).trans rfl, (blk_cell BK156.out 1).trans rfl, (blk_cell BK156.out 2).trans rfl, (blk_cell BK156.out 3).trans rfl, (blk_cell BK175.out 0).trans rfl, (blk_cell BK175.out 1).trans rfl, (blk_cell BK175.out 2).trans rfl, (blk_cell BK175.out 3).trans rfl, (blk_cell BK157.out 0).trans rfl, (blk_cell BK157.out 1).trans rfl, (blk_cell BK157.out 2).trans rfl⟩ (fun hHeld => ?_)
            clear hK K
            refine norm_ (a' := ?_) ?_ ?_
            rotate_left
            · show Act.put _ (some 61) _ = _
              simp only [Act.put, List.setIfInBounds_toArray, List.set_cons_zero, List.set_cons_succ, i64_w, i32_w]
              rfl
            refine one_ (i := 18) (N := some 62) #[true, true, true, true, true, true, true, true, true, true, true, true, true, true, true, true, true, true, true, true, false, true, false, false, false, false, false, false] rfl rfl (one_of HT_.out (by kernel_rfl)) (by decide) (fun K hK => ?_)
            refine goes_ Try.func26 (by kernel_rfl) rfl #[.agg #[.int .i16 t171, .int .i64 t172, .int .i64 t173, .int .i64 t174], .agg #[.int .i64 t234, .int .i64 t235, .int .i64 t236], .int .i64 7, .int .i64 90] (by rfl) rfl rfl (by (try simp only [List.map_toArray, List.map_cons, List.map_nil]); first | done | rfl | (simp only [List.length_drop, List.length_take]; rfl)) ?_
            with_reducible refine (expiry_Usable.calls t171 t172 t173 t174 t234 t235 t236 7 90 t237 _ A85.out).mono ?_
            rintro e w97 ⟨rfl, hb⟩
            refine ⟨_, rfl, ?_⟩
            have n0_ := Aside0.mk (blk_below (g := gb156) (o := .cells #[.int .i16 a0_0, .int .i64 a0_1, .int .i64 a0_2, .int .i64 a0_3] 49 (0, 0)) (by (with_reducible repeat (first | refine blk_drewN ?_ _ | refine blk_drew ?_ | refine blk_alloc ?_ _)); exact BK156.out) hb)
            have n1_ := Aside0.mk (blk_below (g := gb157) (o := .cells #[.int .i64 a1_0, .int .i64 a1_1, .int .i64 a1_2] 50 (0, 0)) (by (with_reducible repeat (first | refine blk_drewN ?_ _ | refine blk_drew ?_ | refine blk_alloc ?_ _)); exact BK157.out) hb)
            have n2_ := Aside0.mk (blk_below (g := gb158) (o := .cells #[.int .u8 a2_0, .int .u8 a2_1, .int .u8 a2_2, .int .u8 a2_3, .int .u8 a2_4, .int .u8 a2_5, .int .u8 a2_6, .int .u8 a2_7] 71 (0, 0)) (by (with_reducible repeat (first | refine blk_drewN ?_ _ | refine blk_drew ?_ | refine blk_alloc ?_ _)); exact BK158.out) hb)
            have n3_ := Aside0.mk (blk_below (g := gb175) (o := .cells #[.int .i16 t171, .int .i64 t172, .int .i64 t173, .int .i64 t174] 46 (0, 0)) (by (with_reducible repeat (first | refine blk_drewN ?_ _ | refine blk_drew ?_ | refine blk_alloc ?_ _)); exact BK175.out) hb)
            have n4_ := Aside0.mk (below_step (by repeat (first | (with_reducible first | exact HB.out | apply below_alloc | apply pw_below_drewN | apply below_drew1 | refine below_set ?_ GE156.out | refine below_set ?_ GE157.out | refine below_set ?_ GE158.out | refine below_set ?_ GE175.out) | exact HB.out)) hb)
            clear BK156
            clear BK157
            clear BK158
            clear BK175
            clear HB
            have BK156 := n0_
            have BK157 := n1_
            have BK158 := n2_
            have BK175 := n3_
            have HB := n4_
            clear n0_ n1_ n2_ n3_ n4_
            (try clear hb)
            (try clear hb2)
            (try clear hk)
            (try clear hi)
            refine hK.out _ _ ⟨(blk_cell BK156.out 0).trans rfl, (blk_cell BK156.out 1).trans rfl, (blk_cell BK156.out 2).trans rfl, (blk_cell BK156.out 3).trans rfl, (blk_cell BK175.out 0).trans rfl, (blk_cell BK175.out 1).trans rfl, (blk_cell BK175.out 2).trans rfl, (blk_cell BK175.out 3).trans rfl, (blk_cell BK157.out 0).trans rfl, (blk_cell BK157.out 1).trans rfl, (blk_cell BK157.out 2).trans rfl⟩ (fun hHeld => ?_)
            clear hK K
            refine norm_ (a' := ?_) ?_ ?_
            rotate_left
            · show Act.put _ (some 62) _ = _
              simp only [Act.put, List.setIfInBounds_toArray, List.set_cons_zero, List.set_cons_succ, i64_w, i32_w]
              rfl
            refine one_ (i := 20) (N := some 64) #[true, true, true, true, true, true, true, true, true, true, true, true, true, true, true, true, true, true, true, true, true, true, false, false, false, false, false, false] rfl rfl (one_of HT_.out (by kernel_rfl)) (by decide) (fun K hK => ?_)
            refine goes_ Try.func19 (by kernel_rfl) rfl #[.agg #[.int .i16 a0_0, .int .i64 a0_1, .int .i64 a0_2, .int .i64 a0_3]] (by rfl) rfl rfl (by (try simp only [List.map_toArray, List.map_cons, List.map_nil]); first | done | rfl | (simp only [List.length_drop, List.length_take]; rfl)) ?_
            with_reducible refine (tricklelaw41_own.calls a0_0 a0_1 a0_2 a0_3 t238 t239 t240 t241 _ A86.out).mono ?_
            rintro e w98 ⟨rfl, hb⟩
            refine ⟨_, rfl, ?_⟩
            have n0_ := Aside0.mk (blk_below (g := gb156) (o := .cells #[.int .i16 a0_0, .int .i64 a0_1, .int .i64 a0_2, .int .i64 a0_3] 49 (0, 0)) (by (with_reducible repeat (first | refine blk_drewN ?_ _ | refine blk_drew ?_ | refine blk_alloc ?_ _)); exact BK156.out) hb)
            have n1_ := Aside0.mk (blk_below (g := gb157) (o := .cells #[.int .i64 a1_0, .int .i64 a1_1, .int .i64 a1_2] 50 (0, 0)) (by (with_reducible repeat (first | refine blk_drewN ?_ _ | refine blk_drew ?_ | refine blk_alloc ?_ _)); exact BK157.out) hb)
            have n2_ := Aside0.mk (blk_below (g := gb158) (o := .cells #[.int .u8 a2_0, .int .u8 a2_1, .int .u8 a2_2, .int .u8 a2_3, .int .u8 a2_4, .int .u8 a2_5, .int .u8 a2_6, .int .u8 a2_7] 71 (0, 0)) (by (with_reducible repeat (first | refine blk_drewN ?_ _ | refine blk_drew ?_ | refine blk_alloc ?_ _)); exact BK158.out) hb)
            have n3_ := Aside0.mk (blk_below (g := gb175) (o := .cells #[.int .i16 t171, .int .i64 t172, .int .i64 t173, .int .i64 t174] 46 (0, 0)) (by (with_reducible repeat (first | refine blk_drewN ?_ _ | refine blk_drew ?_ | refine blk_alloc ?_ _)); exact BK175.out) hb)
            have n4_ := Aside0.mk (below_step (by repeat (first | (with_reducible first | exact HB.out | apply below_alloc | apply pw_below_drewN | apply below_drew1 | refine below_set ?_ GE156.out | refine below_set ?_ GE157.out | refine below_set ?_ GE158.out | refine below_set ?_ GE175.out) | exact HB.out)) hb)
            clear BK156
            clear BK157
            clear BK158
            clear BK175
            clear HB
            have BK156 := n0_
            have BK157 := n1_
            have BK158 := n2_
            have BK175 := n3_
            have HB := n4_
            clear n0_ n1_ n2_ n3_ n4_
            (try clear hb)
            (try clear hb2)
            (try clear hk)
            (try clear hi)
            refine hK.out _ _ ⟨(blk_cell BK156.out 0).trans rfl, (blk_cell BK156.out 1).trans rfl, (blk_cell BK156.out 2).trans rfl, (blk_cell BK156.out 3).trans rfl, (blk_cell BK175.out 0).trans rfl, (blk_cell BK175.out 1).trans rfl, (blk_cell BK175.out 2).trans rfl, (blk_cell BK175.out 3).trans rfl, (blk_cell BK157.out 0).trans rfl, (blk_cell BK157.out 1).trans rfl, (blk_cell BK157.out 2).trans rfl⟩ (fun hHeld => ?_)
            clear hK K
            refine norm_ (a' := ?_) ?_ ?_
            rotate_left
            · show Act.put _ (some 64) _ = _
              simp only [Act.put, List.setIfInBounds_toArray, List.set_cons_zero, List.set_cons_succ, i64_w, i32_w]
              rfl
            refine one_ (i := 22) (N := some 66) #[true, true, true, true, true, true, true, true, true, true, true, true, true, true, true, true, true, true, true, true, true, true, true, false, false, false, false, false] rfl rfl (one_of HT_.out (by kernel_rfl)) (by decide) (fun K hK => ?_)
            refine goes_ Try.func20 (by kernel_rfl) rfl #[.agg #[.int .i64 a1_0, .int .i64 a1_1, .int .i64 a1_2]] (by rfl) rfl rfl (by (try simp only [List.map_toArray, List.map_cons, List.map_nil]); first | done | rfl | (simp only [List.length_drop, List.length_take]; rfl)) ?_
            with_reducible refine (tricklelaw41_now.calls a1_0 a1_1 a1_2 t242 t243 t244 _ A87.out).mono ?_
            rintro e w99 ⟨rfl, hb⟩
            refine ⟨_, rfl, ?_⟩
            have n0_ := Aside0.mk (blk_below (g := gb156) (o := .cells #[.int .i16 a0_0, .int .i64 a0_1, .int .i64 a0_2, .int .i64 a0_3] 49 (0, 0)) (by (with_reducible repeat (first | refine blk_drewN ?_ _ | refine blk_drew ?_ | refine blk_alloc ?_ _)); exact BK156.out) hb)
            have n1_ := Aside0.mk (blk_below (g := gb157) (o := .cells #[.int .i64 a1_0, .int .i64 a1_1, .int .i64 a1_2] 50 (0, 0)) (by (with_reducible repeat (first | refine blk_drewN ?_ _ | refine blk_drew ?_ | refine blk_alloc ?_ _)); exact BK157.out) hb)
            have n2_ := Aside0.mk (blk_below (g := gb158) (o := .cells #[.int .u8 a2_0, .int .u8 a2_1, .int .u8 a2_2, .int .u8 a2_3, .int .u8 a2_4, .int .u8 a2_5, .int .u8 a2_6, .int .u8 a2_7] 71 (0, 0)) (by (with_reducible repeat (first | refine blk_drewN ?_ _ | refine blk_drew ?_ | refine blk_alloc ?_ _)); exact BK158.out) hb)
            have n3_ := Aside0.mk (blk_below (g := gb175) (o := .cells #[.int .i16 t171, .int .i64 t172, .int .i64 t173, .int .i64 t174] 46 (0, 0)) (by (with_reducible repeat (first | refine blk_drewN ?_ _ | refine blk_drew ?_ | refine blk_alloc ?_ _)); exact BK175.out) hb)
            have n4_ := Aside0.mk (below_step (by repeat (first | (with_reducible first | exact HB.out | apply below_alloc | apply pw_below_drewN | apply below_drew1 | refine below_set ?_ GE156.out | refine below_set ?_ GE157.out | refine below_set ?_ GE158.out | refine below_set ?_ GE175.out) | exact HB.out)) hb)
            clear BK156
            clear BK157
            clear BK158
            clear BK175
            clear HB
            have BK156 := n0_
            have BK157 := n1_
            have BK158 := n2_
            have BK175 := n3_
            have HB := n4_
            clear n0_ n1_ n2_ n3_ n4_
            (try clear hb)
            (try clear hb2)
            (try clear hk)
            (try clear hi)
            refine hK.out _ _ ⟨(blk_cell BK156.out 0).trans rfl, (blk_cell BK156.out 1).trans rfl, (blk_cell BK156.out 2).trans rfl, (blk_cell BK156.out 3).trans rfl, (blk_cell BK175.out 0).trans rfl, (blk_cell BK175.out 1).trans rfl, (blk_cell BK175.out 2).trans rfl, (blk_cell BK175.out 3).trans rfl, (blk_cell BK157.out 0).trans rfl, (blk_cell BK157.out 1).trans rfl, (blk_cell BK157.out 2).trans rfl⟩ (fun hHeld => ?_)
            clear hK K
            refine norm_ (a' := ?_) ?_ ?_
            rotate_left
            · show Act.put _ (some 66) _ = _
              simp only [Act.put, List.setIfInBounds_toArray, List.set_cons_zero, List.set_cons_succ, i64_w, i32_w]
              rfl
            refine one_ (i := 23) (N := some 67) #[true, true, true, true, true, true, true, true, true, true, true, true, true, true, true, true, true, true, true, true, true, true, true, true, false, false, false, false] rfl rfl (one_of HT_.out (by kernel_rfl)) (by decide) (fun K hK => ?_)
            refine goes_ Try.func26 (by kernel_rfl) rfl #[.agg #[.int .i16 t238, .int .i64 t239, .int .i64 t240, .int .i64 t241], .agg #[.int .i64 t242, .int .i64 t243, .int .i64 t244], .int .i64 7, .int .i64 90] (by rfl) rfl rfl (by (try simp only [List.map_toArray, List.map_cons, List.map_nil]); first | done | rfl | (simp only [List.length_drop, List.length_take]; rfl)) ?_
            with_reducible refine (expiry_Usable.calls t238 t239 t240 t241 t242 t243 t244 7 90 t245 _ A88.out).mono ?_
            rintro e w100 ⟨rfl, hb⟩
            refine ⟨_, rfl, ?_⟩
            have n0_ := Aside0.mk (blk_below (g := gb156) (o := .cells #[.int .i16 a0_0, .int .i64 a0_1, .int .i64 a0_2, .int .i64 a0_3] 49 (0, 0)) (by (with_reducible repeat (first | refine blk_drewN ?_ _ | refine blk_drew ?_ | refine blk_alloc ?_ _)); exact BK156.out) hb)
            have n1_ := Aside0.mk (blk_below (g := gb157) (o := .cells #[.int .i64 a1_0, .int .i64 a1_1, .int .i64 a1_2] 50 (0, 0)) (by (with_reducible repeat (first | refine blk_drewN ?_ _ | refine blk_drew ?_ | refine blk_alloc ?_ _)); exact BK157.out) hb)
            have n2_ := Aside0.mk (blk_below (g := gb158) (o := .cells #[.int .u8 a2_0, .int .u8 a2_1, .int .u8 a2_2, .int .u8 a2_3, .int .u8 a2_4, .int .u8 a2_5, .int .u8 a2_6, .int .u8 a2_7] 71 (0, 0)) (by (with_reducible repeat (first | refine blk_drewN ?_ _ | refine blk_drew ?_ | refine blk_alloc ?_ _)); exact BK158.out) hb)
            have n3_ := Aside0.mk (blk_below (g := gb175) (o := .cells #[.int .i16 t171, .int .i64 t172, .int .i64 t173, .int .i64 t174] 46 (0, 0)) (by (with_reducible repeat (first | refine blk_drewN ?_ _ | refine blk_drew ?_ | refine blk_alloc ?_ _)); exact BK175.out) hb)
            have n4_ := Aside0.mk (below_step (by repeat (first | (with_reducible first | exact HB.out | apply below_alloc | apply pw_below_drewN | apply below_drew1 | refine below_set ?_ GE156.out | refine below_set ?_ GE157.out | refine below_set ?_ GE158.out | refine below_set ?_ GE175.out) | exact HB.out)) hb)
            clear BK156
            clear BK157
            clear BK158
            clear BK175
            clear HB
            have BK156 := n0_
            have BK157 := n1_
            have BK158 := n2_
            have BK175 := n3_
            have HB := n4_
            clear n0_ n1_ n2_ n3_ n4_
            (try clear hb)
            (try clear hb2)
            (try clear hk)
            (try clear hi)
            refine hK.out _ _ ⟨(blk_cell BK156.out 0).trans rfl, (blk_cell BK156.out 1).trans rfl, (blk_cell BK156.out 2).trans rfl, (blk_cell BK156.out 3).trans rfl, (blk_cell BK175.out 0).trans rfl, (blk_cell BK175.out 1).trans rfl, (blk_cell BK175.out 2).trans rfl, (blk_cell BK175.out 3).trans rfl, (blk_cell BK157.out 0).trans rfl, (blk_cell BK157.out 1).trans rfl, (blk_cell BK157.out 2).trans rfl⟩ (fun hHeld => ?_)
            clear hK K
            refine norm_ (a' := ?_) ?_ ?_
            rotate_left
            · show Act.put _ (some 67) _ = _
              simp only [Act.put, List.setIfInBounds_toArray, List.set_cons_zero, List.set_cons_succ, i64_w, i32_w]
              rfl
            refine pure_ (i := 24) (N := some 68) (v := ?_) (a' := ?_) #[true, true, true, true, true, true, true, true, true, true, true, true, true, true, true, true, true, true, true, true, true, true, true, true, true, false, false, false] rfl rfl (any_of HT_.out (by kernel_rfl)) (fun _ _ _ h => h) (Or.inl ⟨by rfl, ?_⟩) ?_ ?_
            rotate_left
            · intro w'
              go_simp
              with_reducible rfl
            rotate_left
            · simp only [Act.put, List.setIfInBounds_toArray, List.set_cons_zero, List.set_cons_succ, i64_w, i32_w]
              rfl
            refine pure_ (i := 25) (N := some 69) (v := ?_) (a' := ?_) #[true, true, true, true, true, true, true, true, true, true, true, true, true, true, true, true, true, true, true, true, true, true, true, true, true, true, false, false] rfl rfl (any_of HT_.out (by kernel_rfl)) (fun _ _ _ h => h) (Or.inl ⟨by rfl, ?_⟩) ?_ ?_
            rotate_left
            · intro w'
              go_simp
              with_reducible rfl
            rotate_left
            · simp only [Act.put, List.setIfInBounds_toArray, List.set_cons_zero, List.set_cons_succ, i64_w, i32_w]
              rfl
            refine pure_ (i := 26) (N := some 70) (v := ?_) (a' := ?_) #[true, true, true, true, true, true, true, true, true, true, true, true, true, true, true, true, true, true, true, true, true, true, true, true, true, true, true, false] rfl rfl (any_of HT_.out (by kernel_rfl)) (fun _ _ _ h => h) (Or.inl ⟨by rfl, ?_⟩) ?_ ?_
            rotate_left
            · intro w'
              go_simp
              with_reducible rfl
            rotate_left
            · simp only [Act.put, List.setIfInBounds_toArray, List.set_cons_zero, List.set_cons_succ, i64_w, i32_w]
              rfl
            refine pure_ (i := 27) (N := some 6) (v := ?_) (a' := ?_) #[true, true, true, true, true, true, true, true, true, true, true, true, true, true, true, true, true, true, true, true, true, true, true, true, true, true, true, true] rfl rfl (any_of HT_.out (by kernel_rfl)) (fun _ _ _ h => h) (Or.inl ⟨by rfl, ?_⟩) ?_ ?_
            rotate_left
            · intro w'
              go_simp
              with_reducible rfl
            rotate_left
            · simp only [Act.put, List.setIfInBounds_toArray, List.set_cons_zero, List.set_cons_succ, i64_w, i32_w]
              rfl
            refine done_ (done_of HT_.out (by kernel_rfl)) ?_
            try go_wp2
            go_ret
            exact ⟨by first | rfl | (simp [errW_none, errW_some] <;> rfl) | (simp [*, errW_none, errW_some] <;> rfl), by repeat (first | (with_reducible first | exact HB.out | apply below_alloc | apply pw_below_drewN | apply below_drew1 | refine below_set ?_ GE156.out | refine below_set ?_ GE157.out | refine below_set ?_ GE158.out | refine below_set ?_ GE175.out) | exact HB.out)⟩
          · rw [if_neg c83] at H
            have c83b0 : (t225 == t233) = false := by simpa using c83
            (try (have c83b1 : decide (t225 = t233) = false := by simpa using c83))
            (try (have c83b2 : (t225 == t233) = false := by simpa using c83))
            (try (have c83b3 : ¬ (t225 = t233) := by simpa using c83))
            clear c83
            obtain rfl := Option.some.inj H
            try go_wp2
            have n0_ := Aside0.mk (blk_drew BK156.out)
            have n1_ := Aside0.mk (blk_drew BK157.out)
            have n2_ := Aside0.mk (blk_drew BK158.out)
            have n3_ := Aside0.mk (blk_drew BK175.out)
            have n4_ := Aside0.mk (below_drew1 HB.out)
            clear BK156
            clear BK157
            clear BK158
            clear BK175
            clear HB
            have BK156 := n0_
            have BK157 := n1_
            have BK158 := n2_
            have BK175 := n3_
            have HB := n4_
            clear n0_ n1_ n2_ n3_ n4_
            refine start_ (n := 28) (S := fun w' => w'.cell? ⟨gb156, 0, none⟩ = some (.int .i16 a0_0) ∧ w'.cell? ⟨gb156, 1, none⟩ = some (.int .i64 a0_1) ∧ w'.cell? ⟨gb156, 2, none⟩ = some (.int .i64 a0_2) ∧ w'.cell? ⟨gb156, 3, none⟩ = some (.int .i64 a0_3) ∧ w'.cell? ⟨gb175, 0, none⟩ = some (.int .i16 t171) ∧ w'.cell? ⟨gb175, 1, none⟩ = some (.int .i64 t172) ∧ w'.cell? ⟨gb175, 2, none⟩ = some (.int .i64 t173) ∧ w'.cell? ⟨gb175, 3, none⟩ = some (.int .i64 t174) ∧ w'.cell? ⟨gb157, 0, none⟩ = some (.int .i64 a1_0) ∧ w'.cell? ⟨gb157, 1, none⟩ = some (.int .i64 a1_1) ∧ w'.cell? ⟨gb157, 2, none⟩ = some (.int .i64 a1_2)) (ds := []) #[false, false, false, false, false, false, false, false, false, false, false, false, false, false, false, false, false, false, false, false, false, false, false, false, false, false, false, false] (by kernel_rfl) rfl rfl ⟨(blk_cell BK156.out 0).trans rfl, (blk_cell BK156.out 1).trans rfl, (blk_cell BK156.out 2).trans rfl, (blk_cell BK156.out 3).trans rfl, (blk_cell BK175.out 0).trans rfl, (blk_cell BK175.out 1).trans rfl, (blk_cell BK175.out 2).trans rfl, (blk_cell BK175.out 3).trans rfl, (blk_cell BK157.out 0).trans rfl, (blk_cell BK157.out 1).trans rfl, (blk_cell BK157.out 2).trans rfl⟩ (fun hHeld => ?_); refine with_tabW tricklelaw41_ExpiryPut.tab4 tricklelaw41_ExpiryPut.bits4 (fun HT_ HW_ => ?_)
            generalize wc.drew = w101 at BK156 BK157 BK158 BK175 HB hHeld ⊢
            refine take_ (i := 0) (N := some 44) (v := ?_) (a' := ?_) #[true, false, false, false, false, false, false, false, false, false, false, false, false, false, false, false, false, false, false, false, false, false, false, false, false, false, false, false] rfl rfl (take_ofW HT_.out HW_.out (by kernel_rfl)) (fun _ _ _ h => h) (Or.inl ⟨by rfl, ?_⟩) hHeld ?_ ?_
            rotate_left
            · rintro w' ⟨s0, s1, s2, s3, s4, s5, s6, s7, s8, s9, s10⟩
              go_simp
              with_reducible rfl
            rotate_left
            · simp only [Act.put, List.setIfInBounds_toArray, List.set_cons_zero, List.set_cons_succ, i64_w, i32_w]
              rfl
            refine one_ (i := 1) (N := some 45) #[true, true, false, false, false, false, false, false, false, false, false, false, false, false, false, false, false, false, false, false, false, false, false, false, false, false, false, false] rfl rfl (one_of HT_.out (by kernel_rfl)) (by decide) (fun K hK => ?_)
            refine goes_ Try.func25 (by kernel_rfl) rfl #[.agg #[.int .i16 a0_0, .int .i64 a0_1, .int .i64 a0_2, .int .i64 a0_3]] (by rfl) rfl rfl (by (try simp only [List.map_toArray, List.map_cons, List.map_nil]); first | done | rfl | (simp only [List.length_drop, List.length_take]; rfl)) ?_
            with_reducible refine (trickleref41_Valid.calls a0_0 a0_1 a0_2 a0_3 true _ A76.out).mono ?_
            rintro e w102 ⟨rfl, hb⟩
            refine ⟨_, rfl, ?_⟩
            have n0_ := Aside0.mk (blk_below (g := gb156) (o := .cells #[.int .i16 a0_0, .int .i64 a0_1, .int .i64 a0_2, .int .i64 a0_3] 49 (0, 0)) (by (with_reducible repeat (first | refine blk_drewN ?_ _ | refine blk_drew ?_ | refine blk_alloc ?_ _)); exact BK156.out) hb)
            have n1_ := Aside0.mk (blk_below (g := gb157) (o := .cells #[.int .i64 a1_0, .int .i64 a1_1, .int .i64 a1_2] 50 (0, 0)) (by (with_reducible repeat (first | refine blk_drewN ?_ _ | refine blk_drew ?_ | refine blk_alloc ?_ _)); exact BK157.out) hb)
            have n2_ := Aside0.mk (blk_below (g := gb158) (o := .cells #[.int .u8 a2_0, .int .u8 a2_1, .int .u8 a2_2, .int .u8 a2_3, .int .u8 a2_4, .int .u8 a2_5, .int .u8 a2_6, .int .u8 a2_7] 71 (0, 0)) (by (with_reducible repeat (first | refine blk_drewN ?_ _ | refine blk_drew ?_ | refine blk_alloc ?_ _)); exact BK158.out) hb)
            have n3_ := Aside0.mk (blk_below (g := gb175) (o := .cells #[.int .i16 t171, .int .i64 t172, .int .i64 t173, .int .i64 t174] 46 (0, 0)) (by (with_reducible repeat (first | refine blk_drewN ?_ _ | refine blk_drew ?_ | refine blk_alloc ?_ _)); exact BK175.out) hb)
            have n4_ := Aside0.mk (below_step (by repeat (first | (with_reducible first | exact HB.out | apply below_alloc | apply pw_below_drewN | apply below_drew1 | refine below_set ?_ GE156.out | refine below_set ?_ GE157.out | refine below_set ?_ GE158.out | refine below_set ?_ GE175.out) | exact HB.out)) hb)
            clear BK156
            clear BK157
            clear BK158
            clear BK175
            clear HB
            have BK156 := n0_
            have BK157 := n1_
            have BK158 := n2_
            have BK175 := n3_
            have HB := n4_
            clear n0_ n1_ n2_ n3_ n4_
            (try clear hb)
            (try clear hb2)
            (try clear hk)
            (try clear hi)
            refine hK.out _ _ ⟨(blk_cell BK156.out 0).trans rfl, (blk_cell BK156.out 1).trans rfl, (blk_cell BK156.out 2).trans rfl, (blk_cell BK156.out 3).trans rfl, (blk_cell BK175.out 0).trans rfl, (blk_cell BK175.out 1).trans rfl, (blk_cell BK175.out 2).trans rfl, (blk_cell BK175.out 3).trans rfl, (blk_cell BK157.out 0).trans rfl, (blk_cell BK157.out 1).trans rfl, (blk_cell BK157.out 2).trans rfl⟩ (fun hHeld => ?_)
            clear hK K
            refine norm_ (a' := ?_) ?_ ?_
            rotate_left
            · show Act.put _ (some 45) _ = _
              simp only [Act.put, List.setIfInBounds_toArray, List.set_cons_zero, List.set_cons_succ, i64_w, i32_w]
              rfl
            refine pure_ (i := 2) (N := some 46) (v := ?_) (a' := ?_) #[true, true, true, false, false, false, false, false, false, false, false, false, false, false, false, false, false, false, false, false, false, false, false, false, false, false, false, false] rfl rfl (any_of HT_.out (by kernel_rfl)) (fun _ _ _ h => h) (Or.inl ⟨by rfl, ?_⟩) ?_ ?_
            rotate_left
            · intro w'
              go_simp
              with_reducible rfl
            rotate_left
            · simp only [Act.put, List.setIfInBounds_toArray, List.set_cons_zero, List.set_cons_succ, i64_w, i32_w]
              rfl
            refine pure_ (i := 3) (N := some 47) (v := ?_) (a' := ?_) #[true, true, true, true, false, false, false, false, false, false, false, false, false, false, false, false, false, false, false, false, false, false, false, false, false, false, false, false] rfl rfl (any_of HT_.out (by kernel_rfl)) (fun _ _ _ h => h) (Or.inl ⟨by rfl, ?_⟩) ?_ ?_
            rotate_left
            · intro w'
              go_simp
              with_reducible rfl
            rotate_left
            · simp only [Act.put, List.setIfInBounds_toArray, List.set_cons_zero, List.set_cons_succ, i64_w, i32_w]
              rfl
            refine take_ (i := 4) (N := some 48) (v := ?_) (a' := ?_) #[true, true, true, true, true, false, false, false, false, false, false, false, false, false, false, false, false, false, false, false, false, false, false, false, false, false, false, false] rfl rfl (take_ofW HT_.out HW_.out (by kernel_rfl)) (fun _ _ _ h => h) (Or.inl ⟨by rfl, ?_⟩) hHeld ?_ ?_
            rotate_left
            · rintro w' ⟨s0, s1, s2, s3, s4, s5, s6, s7, s8, s9, s10⟩
              go_simp
              with_reducible rfl
            rotate_left
            · simp only [Act.put, List.setIfInBounds_toArray, List.set_cons_zero, List.set_cons_succ, i64_w, i32_w]
              rfl
            refine take_ (i := 5) (N := some 49) (v := ?_) (a' := ?_) #[true, true, true, true, true, true, false, false, false, false, false, false, false, false, false, false, false, false, false, false, false, false, false, false, false, false, false, false] rfl rfl (take_ofW HT_.out HW_.out (by kernel_rfl)) (fun _ _ _ h => h) (Or.inl ⟨by rfl, ?_⟩) hHeld ?_ ?_
            rotate_left
            · rintro w' ⟨s0, s1, s2, s3, s4, s5, s6, s7, s8, s9, s10⟩
              go_simp
              with_reducible rfl
            rotate_left
            · simp only [Act.put, List.setIfInBounds_toArray, List.set_cons_zero, List.set_cons_succ, i64_w, i32_w]
              rfl
            refine take_ (i := 8) (N := some 52) (v := ?_) (a' := ?_) #[true, true, true, true, true, true, false, false, true, false, false, false, false, false, false, false, false, false, false, false, false, false, false, false, false, false, false, false] rfl rfl (take_ofW HT_.out HW_.out (by kernel_rfl)) (fun _ _ _ h => h) (Or.inl ⟨by rfl, ?_⟩) hHeld ?_ ?_
            rotate_left
            · rintro w' ⟨s0, s1, s2, s3, s4, s5, s6, s7, s8, s9, s10⟩
              go_simp
              with_reducible rfl
            rotate_left
            · simp only [Act.put, List.setIfInBounds_toArray, List.set_cons_zero, List.set_cons_succ, i64_w, i32_w]
              rfl
            refine take_ (i := 10) (N := some 54) (v := ?_) (a' := ?_) #[true, true, true, true, true, true, false, false, true, false, true, false, false, false, false, false, false, false, false, false, false, false, false, false, false, false, false, false] rfl rfl (take_ofW HT_.out HW_.out (by kernel_rfl)) (fun _ _ _ h => h) (Or.inl ⟨by rfl, ?_⟩) hHeld ?_ ?_
            rotate_left
            · rintro w' ⟨s0, s1, s2, s3, s4, s5, s6, s7, s8, s9, s10⟩
              go_simp
              with_reducible rfl
            rotate_left
            · simp only [Act.put, List.setIfInBounds_toArray, List.set_cons_zero, List.set_cons_succ, i64_w, i32_w]
              rfl
            refine one_ (i := 6) (N := some 50) #[true, true, true, true, true, true, true, false, true, false, true, false, false, false, false, false, false, false, false, false, false, false, false, false, false, false, false, false] rfl rfl (one_of HT_.out (by kernel_rfl)) (by decide) (fun K hK => ?_)
            refine goes_ Try.func20 (by kernel_rfl) rfl #[.agg #[.int .i64 a1_0, .int .i64 a1_1, .int .i64 a1_2]] (by rfl) rfl rfl (by (try simp only [List.map_toArray, List.map_cons, List.map_nil]); first | done | rfl | (simp only [List.length_drop, List.length_take]; rfl)) ?_
            with_reducible refine (tricklelaw41_now.calls a1_0 a1_1 a1_2 t222 t223 t224 _ A78.out).mono ?_
            rintro e w103 ⟨rfl, hb⟩
            refine ⟨_, rfl, ?_⟩
            have n0_ := Aside0.mk (blk_below (g := gb156) (o := .cells #[.int .i16 a0_0, .int .i64 a0_1, .int .i64 a0_2, .int .i64 a0_3] 49 (0, 0)) (by (with_reducible repeat (first | refine blk_drewN ?_ _ | refine blk_drew ?_ | refine blk_alloc ?_ _)); exact BK156.out) hb)
            have n1_ := Aside0.mk (blk_below (g := gb157) (o := .cells #[.int .i64 a1_0, .int .i64 a1_1, .int .i64 a1_2] 50 (0, 0)) (by (with_reducible repeat (first | refine blk_drewN ?_ _ | refine blk_drew ?_ | refine blk_alloc ?_ _)); exact BK157.out) hb)
            have n2_ := Aside0.mk (blk_below (g := gb158) (o := .cells #[.int .u8 a2_0, .int .u8 a2_1, .int .u8 a2_2, .int .u8 a2_3, .int .u8 a2_4, .int .u8 a2_5, .int .u8 a2_6, .int .u8 a2_7] 71 (0, 0)) (by (with_reducible repeat (first | refine blk_drewN ?_ _ | refine blk_drew ?_ | refine blk_alloc ?_ _)); exact BK158.out) hb)
            have n3_ := Aside0.mk (blk_below (g := gb175) (o := .cells #[.int .i16 t171, .int .i64 t172, .int .i64 t173, .int .i64 t174] 46 (0, 0)) (by (with_reducible repeat (first | refine blk_drewN ?_ _ | refine blk_drew ?_ | refine blk_alloc ?_ _)); exact BK175.out) hb)
            have n4_ := Aside0.mk (below_step (by repeat (first | (with_reducible first | exact HB.out | apply below_alloc | apply pw_below_drewN | apply below_drew1 | refine below_set ?_ GE156.out | refine below_set ?_ GE157.out | refine below_set ?_ GE158.out | refine below_set ?_ GE175.out) | exact HB.out)) hb)
            clear BK156
            clear BK157
            clear BK158
            clear BK175
            clear HB
            have BK156 := n0_
            have BK157 := n1_
            have BK158 := n2_
            have BK175 := n3_
            have HB := n4_
            clear n0_ n1_ n2_ n3_ n4_
            (try clear hb)
            (try clear hb2)
            (try clear hk)
            (try clear hi)
            refine hK.out _ _ ⟨(blk_cell BK156.out 0).trans rfl, (blk_cell BK156.out 1).trans rfl, (blk_cell BK156.out 2).trans rfl, (blk_cell BK156.out 3).trans rfl, (blk_cell BK175.out 0).trans rfl, (blk_cell BK175.out 1).trans rfl, (blk_cell BK175.out 2).trans rfl, (blk_cell BK175.out 3).trans rfl, (blk_cell BK157.out 0).trans rfl, (blk_cell BK157.out 1).trans rfl, (blk_cell BK157.out 2).trans rfl⟩ (fun hHeld => ?_)
            clear hK K
            refine norm_ (a' := ?_) ?_ ?_
            rotate_left
            · show Act.put _ (some 50) _ = _
              simp only [Act.put, List.setIfInBounds_toArray, List.set_cons_zero, List.set_cons_succ, i64_w, i32_w]
              rfl
            refine one_ (i := 7) (N := some 51) #[true, true, true, true, true, true, true, true, true, false, true, false, false, false, false, false, false, false, false, false, false, false, false, false, false, false, false, false] rfl rfl (one_of HT_.out (by kernel_rfl)) (by decide) (fun K hK => ?_)
            refine goes_ Try.func17 (by kernel_rfl) rfl #[.agg #[.int .i16 t171, .int .i64 t172, .int .i64 t173, .int .i64 t174], .agg #[.int .i64 t222, .int .i64 t223, .int .i64 t224], .int .i64 50] (by rfl) rfl rfl (by (try simp only [List.map_toArray, List.map_cons, List.map_nil]); first | done | rfl | (simp only [List.length_drop, List.length_take]; rfl)) ?_
            with_reducible refine (expiry_Fresh.calls t171 t172 t173 t174 t222 t223 t224 50 t225 _ A79.out).mono ?_
            rintro e w104 ⟨rfl, hb⟩
            refine ⟨_, rfl, ?_⟩
            have n0_ := Aside0.mk (blk_below (g := gb156) (o := .cells #[.int .i16 a0_0, .int .i64 a0_1, .int .i64 a0_2, .int .i64 a0_3] 49 (0, 0)) (by (with_reducible repeat (first | refine blk_drewN ?_ _ | refine blk_drew ?_ | refine blk_alloc ?_ _)); exact BK156.out) hb)
            have n1_ := Aside0.mk (blk_below (g := gb157) (o := .cells #[.int .i64 a1_0, .int .i64 a1_1, .int .i64 a1_2] 50 (0, 0)) (by (with_reducible repeat (first | refine blk_drewN ?_ _ | refine blk_drew ?_ | refine blk_alloc ?_ _)); exact BK157.out) hb)
            have n2_ := Aside0.mk (blk_below (g := gb158) (o := .cells #[.int .u8 a2_0, .int .u8 a2_1, .int .u8 a2_2, .int .u8 a2_3, .int .u8 a2_4, .int .u8 a2_5, .int .u8 a2_6, .int .u8 a2_7] 71 (0, 0)) (by (with_reducible repeat (first | refine blk_drewN ?_ _ | refine blk_drew ?_ | refine blk_alloc ?_ _)); exact BK158.out) hb)
            have n3_ := Aside0.mk (blk_below (g := gb175) (o := .cells #[.int .i16 t171, .int .i64 t172, .int .i64 t173, .int .i64 t174] 46 (0, 0)) (by (with_reducible repeat (first | refine blk_drewN ?_ _ | refine blk_drew ?_ | refine blk_alloc ?_ _)); exact BK175.out) hb)
            have n4_ := Aside0.mk (below_step (by repeat (first | (with_reducible first | exact HB.out | apply below_alloc | apply pw_below_drewN | apply below_drew1 | refine below_set ?_ GE156.out | refine below_set ?_ GE157.out | refine below_set ?_ GE158.out | refine below_set ?_ GE175.out) | exact HB.out)) hb)
            clear BK156
            clear BK157
            clear BK158
            clear BK175
            clear HB
            have BK156 := n0_
            have BK157 := n1_
            have BK158 := n2_
            have BK175 := n3_
            have HB := n4_
            clear n0_ n1_ n2_ n3_ n4_
            (try clear hb)
            (try clear hb2)
            (try clear hk)
            (try clear hi)
            refine hK.out _ _ ⟨(blk_cell BK156.out 0).trans rfl, (blk_cell BK156.out 1).trans rfl, (blk_cell BK156.out 2).trans rfl, (blk_cell BK156.out 3).trans rfl, (blk_cell BK175.out 0).trans rfl, (blk_cell BK175.out 1).trans rfl, (blk_cell BK175.out 2).trans rfl, (blk_cell BK175.out 3).trans rfl, (blk_cell BK157.out 0).trans rfl, (blk_cell BK157.out 1).trans rfl, (blk_cell BK157.out 2).trans rfl⟩ (fun hHeld => ?_)
            clear hK K
            refine norm_ (a' := ?_) ?_ ?_
            rotate_left
            · show Act.put _ (some 51) _ = _
              simp only [Act.put, List.setIfInBounds_toArray, List.set_cons_zero, List.set_cons_succ, i64_w, i32_w]
              rfl
            refine one_ (i := 9) (N := some 53) #[true, true, true, true, true, true, true, true, true, true, true, false, false, false, false, false, false, false, false, false, false, false, false, false, false, false, false, false] rfl rfl (one_of HT_.out (by kernel_rfl)) (by decide) (fun K hK => ?_)
            refine goes_ Try.func19 (by kernel_rfl) rfl #[.agg #[.int .i16 a0_0, .int .i64 a0_1, .int .i64 a0_2, .int .i64 a0_3]] (by rfl) rfl rfl (by (try simp only [List.map_toArray, List.map_cons, List.map_nil]); first | done | rfl | (simp only [List.length_drop, List.length_take]; rfl)) ?_
            with_reducible refine (tricklelaw41_own.calls a0_0 a0_1 a0_2 a0_3 t226 t227 t228 t229 _ A80.out).mono ?_
            rintro e w105 ⟨rfl, hb⟩
            refine ⟨_, rfl, ?_⟩
            have n0_ := Aside0.mk (blk_below (g := gb156) (o := .cells #[.int .i16 a0_0, .int .i64 a0_1, .int .i64 a0_2, .int .i64 a0_3] 49 (0, 0)) (by (with_reducible repeat (first | refine blk_drewN ?_ _ | refine blk_drew ?_ | refine blk_alloc ?_ _)); exact BK156.out) hb)
            have n1_ := Aside0.mk (blk_below (g := gb157) (o := .cells #[.int .i64 a1_0, .int .i64 a1_1, .int .i64 a1_2] 50 (0, 0)) (by (with_reducible repeat (first | refine blk_drewN ?_ _ | refine blk_drew ?_ | refine blk_alloc ?_ _)); exact BK157.out) hb)
            have n2_ := Aside0.mk (blk_below (g := gb158) (o := .cells #[.int .u8 a2_0, .int .u8 a2_1, .int .u8 a2_2, .int .u8 a2_3, .int .u8 a2_4, .int .u8 a2_5, .int .u8 a2_6, .int .u8 a2_7] 71 (0, 0)) (by (with_reducible repeat (first | refine blk_drewN ?_ _ | refine blk_drew ?_ | refine blk_alloc ?_ _)); exact BK158.out) hb)
            have n3_ := Aside0.mk (blk_below (g := gb175) (o := .cells #[.int .i16 t171, .int .i64 t172, .int .i64 t173, .int .i64 t174] 46 (0, 0)) (by (with_reducible repeat (first | refine blk_drewN ?_ _ | refine blk_drew ?_ | refine blk_alloc ?_ _)); exact BK175.out) hb)
            have n4_ := Aside0.mk (below_step (by repeat (first | (with_reducible first | exact HB.out | apply below_alloc | apply pw_below_drewN | apply below_drew1 | refine below_set ?_ GE156.out | refine below_set ?_ GE157.out | refine below_set ?_ GE158.out | refine below_set ?_ GE175.out) | exact HB.out)) hb)
            clear BK156
            clear BK157
            clear BK158
            clear BK175
            clear HB
            have BK156 := n0_
            have BK157 := n1_
            have BK158 := n2_
            have BK175 := n3_
            have HB := n4_
            clear n0_ n1_ n2_ n3_ n4_
            (try clear hb)
            (try clear hb2)
            (try clear hk)
            (try clear hi)
            refine hK.out _ _ ⟨(blk_cell BK156.out 0).trans rfl, (blk_cell BK156.out 1).trans rfl, (blk_cell BK156.out 2).trans rfl, (blk_cell BK156.out 3).trans rfl, (blk_cell BK175.out 0).trans rfl, (blk_cell BK175.out 1).trans rfl, (blk_cell BK175.out 2).trans rfl, (blk_cell BK175.out 3).trans rfl, (blk_cell BK157.out 0).trans rfl, (blk_cell BK157.out 1).trans rfl, (blk_cell BK157.out 2).trans rfl⟩ (fun hHeld => ?_)
            clear hK K
            refine norm_ (a' := ?_) ?_ ?_
            rotate_left
            · show Act.put _ (some 53) _ = _
              simp only [Act.put, List.setIfInBounds_toArray, List.set_cons_zero, List.set_cons_succ, i64_w, i32_w]
              rfl
            refine one_ (i := 11) (N := some 55) #[true, true, true, true, true, true, true, true, true, true, true, true, false, false, false, false, false, false, false, false, false, false, false, false, false, false, false, false] rfl rfl (one_of HT_.out (by kernel_rfl)) (by decide) (fun K hK => ?_)
            refine goes_ Try.func20 (by kernel_rfl) rfl #[.agg #[.int .i64 a1_0, .int .i64 a1_1, .int .i64 a1_2]] (by rfl) rfl rfl (by (try simp only [List.map_toArray, List.map_cons, List.map_nil]); first | done | rfl | (simp only [List.length_drop, List.length_take]; rfl)) ?_
            with_reducible refine (tricklelaw41_now.calls a1_0 a1_1 a1_2 t230 t231 t232 _ A81.out).mono ?_
            rintro e w106 ⟨rfl, hb⟩
            refine ⟨_, rfl, ?_⟩
            have n0_ := Aside0.mk (blk_below (g := gb156) (o := .cells #[.int .i16 a0_0, .int .i64 a0_1, .int .i64 a0_2, .int .i64 a0_3] 49 (0, 0)) (by (with_reducible repeat (first | refine blk_drewN ?_ _ | refine blk_drew ?_ | refine blk_alloc ?_ _)); exact BK156.out) hb)
            have n1_ := Aside0.mk (blk_below (g := gb157) (o := .cells #[.int .i64 a1_0, .int .i64 a1_1, .int .i64 a1_2] 50 (0, 0)) (by (with_reducible repeat (first | refine blk_drewN ?_ _ | refine blk_drew ?_ | refine blk_alloc ?_ _)); exact BK157.out) hb)
            have n2_ := Aside0.mk (blk_below (g := gb158) (o := .cells #[.int .u8 a2_0, .int .u8 a2_1, .int .u8 a2_2, .int .u8 a2_3, .int .u8 a2_4, .int .u8 a2_5, .int .u8 a2_6, .int .u8 a2_7] 71 (0, 0)) (by (with_reducible repeat (first | refine blk_drewN ?_ _ | refine blk_drew ?_ | refine blk_alloc ?_ _)); exact BK158.out) hb)
            have n3_ := Aside0.mk (blk_below (g := gb175) (o := .cells #[.int .i16 t171, .int .i64 t172, .int .i64 t173, .int .i64 t174] 46 (0, 0)) (by (with_reducible repeat (first | refine blk_drewN ?_ _ | refine blk_drew ?_ | refine blk_alloc ?_ _)); exact BK175.out) hb)
            have n4_ := Aside0.mk (below_step (by repeat (first | (with_reducible first | exact HB.out | apply below_alloc | apply pw_below_drewN | apply below_drew1 | refine below_set ?_ GE156.out | refine below_set ?_ GE157.out | refine below_set ?_ GE158.out | refine below_set ?_ GE175.out) | exact HB.out)) hb)
            clear BK156
            clear BK157
            clear BK158
            clear BK175
            clear HB
            have BK156 := n0_
            have BK157 := n1_
            have BK158 := n2_
            have BK175 := n3_
            have HB := n4_
            clear n0_ n1_ n2_ n3_ n4_
            (try clear hb)
            (try clear hb2)
            (try clear hk)
            (try clear hi)
            refine hK.out _ _ ⟨(blk_cell BK156.out 0).trans rfl, (blk_cell BK156.out 1).trans rfl, (blk_cell BK156.out 2).trans rfl, (blk_cell BK156.out 3).trans rfl, (blk_cell BK175.out 0).trans rfl, (blk_cell BK175.out 1).trans rfl, (blk_cell BK175.out 2).trans rfl, (blk_cell BK175.out 3).trans rfl, (blk_cell BK157.out 0).trans rfl, (blk_cell BK157.out 1).trans rfl, (blk_cell BK157.out 2).trans rfl⟩ (fun hHeld => ?_)
            clear hK K
            refine norm_ (a' := ?_) ?_ ?_
            rotate_left
            · show Act.put _ (some 55) _ = _
              simp only [Act.put, List.setIfInBounds_toArray, List.set_cons_zero, List.set_cons_succ, i64_w, i32_w]
              rfl
            refine one_ (i := 12) (N := some 56) #[true, true, true, true, true, true, true, true, true, true, true, true, true, false, false, false, false, false, false, false, false, false, false, false, false, false, false, false] rfl rfl (one_of HT_.out (by kernel_rfl)) (by decide) (fun K hK => ?_)
            refine goes_ Try.func17 (by kernel_rfl) rfl #[.agg #[.int .i16 t226, .int .i64 t227, .int .i64 t228, .int .i64 t229], .agg #[.int .i64 t230, .int .i64 t231, .int .i64 t232], .int .i64 50] (by rfl) rfl rfl (by (try simp only [List.map_toArray, List.map_cons, List.map_nil]); first | done | rfl | (simp only [List.length_drop, List.length_take]; rfl)) ?_
            with_reducible refine (expiry_Fresh.calls t226 t227 t228 t229 t230 t231 t232 50 t233 _ A82.out).mono ?_
            rintro e w107 ⟨rfl, hb⟩
            refine ⟨_, rfl, ?_⟩
            have n0_ := Aside0.mk (blk_below (g := gb156) (o := .cells #[.int .i16 a0_0, .int .i64 a0_1, .int .i64 a0_2, .int .i64 a0_3] 49 (0, 0)) (by (with_reducible repeat (first | refine blk_drewN ?_ _ | refine blk_drew ?_ | refine blk_alloc ?_ _)); exact BK156.out) hb)
            have n1_ := Aside0.mk (blk_below (g := gb157) (o := .cells #[.int .i64 a1_0, .int .i64 a1_1, .int .i64 a1_2] 50 (0, 0)) (by (with_reducible repeat (first | refine blk_drewN ?_ _ | refine blk_drew ?_ | refine blk_alloc ?_ _)); exact BK157.out) hb)
            have n2_ := Aside0.mk (blk_below (g := gb158) (o := .cells #[.int .u8 a2_0, .int .u8 a2_1, .int .u8 a2_2, .int .u8 a2_3, .int .u8 a2_4, .int .u8 a2_5, .int .u8 a2_6, .int .u8 a2_7] 71 (0, 0)) (by (with_reducible repeat (first | refine blk_drewN ?_ _ | refine blk_drew ?_ | refine blk_alloc ?_ _)); exact BK158.out) hb)
            have n3_ := Aside0.mk (blk_below (g := gb175) (o := .cells #[.int .i16 t171, .int .i64 t172, .int .i64 t173, .int .i64 t174] 46 (0, 0)) (by (with_reducible repeat (first | refine blk_drewN ?_ _ | refine blk_drew ?_ | refine blk_alloc ?_ _)); exact BK175.out) hb)
            have n4_ := Aside0.mk (below_step (by repeat (first | (with_reducible first | exact HB.out | apply below_alloc | apply pw_below_drewN | apply below_drew1 | refine below_set ?_ GE156.out | refine below_set ?_ GE157.out | refine below_set ?_ GE158.out | refine below_set ?_ GE175.out) | exact HB.out)) hb)
            clear BK156
            clear BK157
            clear BK158
            clear BK175
            clear HB
            have BK156 := n0_
            have BK157 := n1_
            have BK158 := n2_
            have BK175 := n3_
            have HB := n4_
            clear n0_ n1_ n2_ n3_ n4_
            (try clear hb)
            (try clear hb2)
            (try clear hk)
            (try clear hi)
            refine hK.out _ _ ⟨(blk_cell BK156.out 0).trans rfl, (blk_cell BK156.out 1).trans rfl, (blk_cell BK156.out 2).trans rfl, (blk_cell BK156.out 3).trans rfl, (blk_cell BK175.out 0).trans rfl, (blk_cell BK175.out 1).trans rfl, (blk_cell BK175.out 2).trans rfl, (blk_cell BK175.out 3).trans rfl, (blk_cell BK157.out 0).trans rfl, (blk_cell BK157.out 1).trans rfl, (blk_cell BK157.out 2).trans rfl⟩ (fun hHeld => ?_)
            clear hK K
            refine norm_ (a' := ?_) ?_ ?_
            rotate_left
            · show Act.put _ (some 56) _ = _
              simp only [Act.put, List.setIfInBounds_toArray, List.set_cons_zero, List.set_cons_succ, i64_w, i32_w]
              rfl
            refine pure_ (i := 13) (N := some 57) (v := ?_) (a' := ?_) #[true, true, true, true, true, true, true, true, true, true, true, true, true, true, false, false, false, false, false, false, false, false, false, false, false, false, false, false] rfl rfl (any_of HT_.out (by kernel_rfl)) (fun _ _ _ h => h) (Or.inl ⟨by rfl, ?_⟩) ?_ ?_
            rotate_left
            · intro w'
              go_simp
              with_reducible rfl
            rotate_left
            · simp only [Act.put, List.setIfInBounds_toArray, List.set_cons_zero, List.set_cons_succ, i64_w, i32_w]
              rfl
            refine pure_ (i := 14) (N := some 58) (v := ?_) (a' := ?_) #[true, true, true, true, true, true, true, true, true, true, true, true, true, true, true, false, false, false, false, false, false, false, false, false, false, false, false, false] rfl rfl (any_of HT_.out (by kernel_rfl)) (fun _ _ _ h => h) (Or.inl ⟨by rfl, ?_⟩) ?_ ?_
            rotate_left
            · intro w'
              go_simp
              with_reducible rfl
            rotate_left
            · simp only [Act.put, List.setIfInBounds_toArray, List.set_cons_zero, List.set_cons_succ, i64_w, i32_w]
              rfl
            refine pure_ (i := 15) (N := some 59) (v := undef) (a' := ?_) #[true, true, true, true, true, true, true, true, true, true, true, true, true, true, true, true, false, false, false, false, false, false, false, false, false, false, false, false] rfl rfl (any_of HT_.out (by kernel_rfl)) (fun _ _ _ h => h) (Or.inr ⟨by rfl, rfl⟩) ?_ ?_
            rotate_left
            · simp only [Act.put, List.setIfInBounds_toArray, List.set_cons_zero, List.set_cons_succ, i64_w, i32_w]
              rfl
            refine pure_ (i := 16) (N := some 60) (v := undef) (a' := ?_) #[true, true, true, true, true, true, true, true, true, true, true, true, true, true, true, true, true, false, false, false, false, false, false, false, false, false, false, false] rfl rfl (any_of HT_.out (by kernel_rfl)) (fun _ _ _ h => h) (Or.inr ⟨by rfl, rfl⟩) ?_ ?_
            rotate_left
            · simp only [Act.put, List.setIfInBounds_toArray, List.set_cons_zero, List.set_cons_succ, i64_w, i32_w]
              rfl
            refine pure_ (i := 17) (N := some 61) (v := undef) (a' := ?_) #[true, true, true, true, true, true, true, true, true, true, true, true, true, true, true, true, true, true, false, false, false, false, false, false, false, false, false, false] rfl rfl (any_of HT_.out (by kernel_rfl)) (fun _ _ _ h => h) (Or.inr ⟨by rfl, rfl⟩) ?_ ?_
            rotate_left
            · simp only [Act.put, List.setIfInBounds_toArray, List.set_cons_zero, List.set_cons_succ, i64_w, i32_w]
              rfl
            refine pure_ (i := 18) (N := some 62) (v := undef) (a' := ?_) #[true, true, true, true, true, true, true, true, true, true, true, true, true, true, true, true, true, true, true, false, false, false, false, false, false, false, false, false] rfl rfl (any_of HT_.out (by kernel_rfl)) (fun _ _ _ h => h) (Or.inr ⟨by rfl, rfl⟩) ?_ ?_
            rotate_left
            · simp only [Act.put, List.setIfInBounds_toArray, List.set_cons_zero, List.set_cons_succ, i64_w, i32_w]
              rfl
            refine pure_ (i := 19) (N := some 63) (v := undef) (a' := ?_) #[true, true, true, true, true, true, true, true, true, true, true, true, true, true, true, true, true, true, true, true, false, false, false, false, false, false, false, false] rfl rfl (any_of HT_.out (by kernel_rfl)) (fun _ _ _ h => h) (Or.inr ⟨by rfl, rfl⟩) ?_ ?_
            rotate_left
            · simp only [Act.put, List.setIfInBounds_toArray, List.set_cons_zero, List.set_cons_succ, i64_w, i32_w]
              rfl
            refine pure_ (i := 20) (N := some 64) (v := undef) (a' := ?_) #[true, true, true, true, true, true, true, true, true, true, true, true, true, true, true, true, true, true, true, true, true, false, false, false, false, false, false, false] rfl rfl (any_of HT_.out (by kernel_rfl)) (fun _ _ _ h => h) (Or.inr ⟨by rfl, rfl⟩) ?_ ?_
            rotate_left
            · simp only [Act.put, List.setIfInBounds_toArray, List.set_cons_zero, List.set_cons_succ, i64_w, i32_w]
              rfl
            refine pure_ (i := 21) (N := some 65) (v := undef) (a' := ?_) #[true, true, true, true, true, true, true, true, true, true, true, true, true, true, true, true, true, true, true, true, true, true, false, false, false, false, false, false] rfl rfl (any_of HT_.out (by kernel_rfl)) (fun _ _ _ h => h) (Or.inr ⟨by rfl, rfl⟩) ?_ ?_
            rotate_left
            · simp only [Act.put, List.setIfInBounds_toArray, List.set_cons_zero, List.set_cons_succ, i64_w, i32_w]
              rfl
            refine pure_ (i := 22) (N := some 66) (v := undef) (a' := ?_) #[true, true, true, true, true, true, true, true, true, true, true, true, true, true, true, true, true, true, true, true, true, true, true, false, false, false, false, false] rfl rfl (any_of HT_.out (by kernel_rfl)) (fun _ _ _ h => h) (Or.inr ⟨by rfl, rfl⟩) ?_ ?_
            rotate_left
            · simp only [Act.put, List.setIfInBounds_toArray, List.set_cons_zero, List.set_cons_succ, i64_w, i32_w]
              rfl
            refine pure_ (i := 23) (N := some 67) (v := undef) (a' := ?_) #[true, true, true, true, true, true, true, true, true, true, true, true, true, true, true, true, true, true, true, true, true, true, true, true, false, false, false, false] rfl rfl (any_of HT_.out (by kernel_rfl)) (fun _ _ _ h => h) (Or.inr ⟨by rfl, rfl⟩) ?_ ?_
            rotate_left
            · simp only [Act.put, List.setIfInBounds_toArray, List.set_cons_zero, List.set_cons_succ, i64_w, i32_w]
              rfl
            refine pure_ (i := 24) (N := some 68) (v := undef) (a' := ?_) #[true, true, true, true, true, true, true, true, true, true, true, true, true, true, true, true, true, true, true, true, true, true, true, true, true, false, false, false] rfl rfl (any_of HT_.out (by kernel_rfl)) (fun _ _ _ h => h) (Or.inr ⟨by rfl, rfl⟩) ?_ ?_
            rotate_left
            · simp only [Act.put, List.setIfInBounds_toArray, List.set_cons_zero, List.set_cons_succ, i64_w, i32_w]
              rfl
            refine pure_ (i := 25) (N := some 69) (v := ?_) (a' := ?_) #[true, true, true, true, true, true, true, true, true, true, true, true, true, true, true, true, true, true, true, true, true, true, true, true, true, true, false, false] rfl rfl (any_of HT_.out (by kernel_rfl)) (fun _ _ _ h => h) (Or.inl ⟨by rfl, ?_⟩) ?_ ?_
            rotate_left
            · intro w'
              go_simp
              with_reducible rfl
            rotate_left
            · simp only [Act.put, List.setIfInBounds_toArray, List.set_cons_zero, List.set_cons_succ, i64_w, i32_w]
              rfl
            refine pure_ (i := 26) (N := some 70) (v := ?_) (a' := ?_) #[true, true, true, true, true, true, true, true, true, true, true, true, true, true, true, true, true, true, true, true, true, true, true, true, true, true, true, false] rfl rfl (any_of HT_.out (by kernel_rfl)) (fun _ _ _ h => h) (Or.inl ⟨by rfl, ?_⟩) ?_ ?_
            rotate_left
            · intro w'
              go_simp
              with_reducible rfl
            rotate_left
            · simp only [Act.put, List.setIfInBounds_toArray, List.set_cons_zero, List.set_cons_succ, i64_w, i32_w]
              rfl
            refine pure_ (i := 27) (N := some 6) (v := ?_) (a' := ?_) #[true, true, true, true, true, true, true, true, true, true, true, true, true, true, true, true, true, true, true, true, true, true, true, true, true, true, true, true] rfl rfl (any_of HT_.out (by kernel_rfl)) (fun _ _ _ h => h) (Or.inl ⟨by rfl, ?_⟩) ?_ ?_
            rotate_left
            · intro w'
              go_simp
              with_reducible rfl
            rotate_left
            · simp only [Act.put, List.setIfInBounds_toArray, List.set_cons_zero, List.set_cons_succ, i64_w, i32_w]
              rfl
            refine done_ (done_of HT_.out (by kernel_rfl)) ?_
            try go_wp2
            go_ret
            exact ⟨by first | rfl | (simp [errW_none, errW_some] <;> rfl) | (simp [*, errW_none, errW_some] <;> rfl), by repeat (first | (with_reducible first | exact HB.out | apply below_alloc | apply pw_below_drewN | apply below_drew1 | refine below_set ?_ GE156.out | refine below_set ?_ GE157.out | refine below_set ?_ GE158.out | refine below_set ?_ GE175.out) | exact HB.out)⟩
        · replace c77 := Bool.eq_false_iff.mpr c77
          subst c77
          have H1 : (some true) = some r := by rw [if_neg (show ¬ (false = true) by decide)] at H; exact H
          clear H
          have H := H1
          clear H1
          obtain rfl := Option.some.inj H
          try go_wp2
          have n0_ := Aside0.mk (blk_drew BK156.out)
          have n1_ := Aside0.mk (blk_drew BK157.out)
          have n2_ := Aside0.mk (blk_drew BK158.out)
          have n3_ := Aside0.mk (blk_drew BK175.out)
          have n4_ := Aside0.mk (below_drew1 HB.out)
          clear BK156
          clear BK157
          clear BK158
          clear BK175
          clear HB
          have BK156 := n0_
          have BK157 := n1_
          have BK158 := n2_
          have BK175 := n3_
          have HB := n4_
          clear n0_ n1_ n2_ n3_ n4_
          refine start_ (n := 28) (S := fun w' => w'.cell? ⟨gb156, 0, none⟩ = some (.int .i16 a0_0) ∧ w'.cell? ⟨gb156, 1, none⟩ = some (.int .i64 a0_1) ∧ w'.cell? ⟨gb156, 2, none⟩ = some (.int .i64 a0_2) ∧ w'.cell? ⟨gb156, 3, none⟩ = some (.int .i64 a0_3)) (ds := []) #[false, false, false, false, false, false, false, false, false, false, false, false, false, false, false, false, false, false, false, false, false, false, false, false, false, false, false, false] (by kernel_rfl) rfl rfl ⟨(blk_cell BK156.out 0).trans rfl, (blk_cell BK156.out 1).trans rfl, (blk_cell BK156.out 2).trans rfl, (blk_cell BK156.out 3).trans rfl⟩ (fun hHeld => ?_); refine with_tabW tricklelaw41_ExpiryPut.tab4 tricklelaw41_ExpiryPut.bits4 (fun HT_ HW_ => ?_)
          generalize wc.drew = w108 at BK156 BK157 BK158 BK175 HB hHeld ⊢
          refine take_ (i := 0) (N := some 44) (v := ?_) (a' := ?_) #[true, false, false, false, false, false, false, false, false, false, false, false, false, false, false, false, false, false, false, false, false, false, false, false, false, false, false, false] rfl rfl (take_ofW HT_.out HW_.out (by kernel_rfl)) (fun _ _ _ h => h) (Or.inl ⟨by rfl, ?_⟩) hHeld ?_ ?_
          rotate_left
          · rintro w' ⟨s0, s1, s2, s3⟩
            go_simp
            with_reducible rfl
          rotate_left
          · simp only [Act.put, List.setIfInBounds_toArray, List.set_cons_zero, List.set_cons_succ, i64_w, i32_w]
            rfl
          refine one_ (i := 1) (N := some 45) #[true, true, false, false, false, false, false, false, false, false, false, false, false, false, false, false, false, false, false, false, false, false, false, false, false, false, false, false] rfl rfl (one_of HT_.out (by kernel_rfl)) (by decide) (fun K hK => ?_)
          refine goes_ Try.func25 (by kernel_rfl) rfl #[.agg #[.int .i16 a0_0, .int .i64 a0_1, .int .i64 a0_2, .int .i64 a0_3]] (by rfl) rfl rfl (by (try simp only [List.map_toArray, List.map_cons, List.map_nil]); first | done | rfl | (simp only [List.length_drop, List.length_take]; rfl)) ?_
          with_reducible refine (trickleref41_Valid.calls a0_0 a0_1 a0_2 a0_3 false _ A76.out).mono ?_
          rintro e w109 ⟨rfl, hb⟩
          refine ⟨_, rfl, ?_⟩
          have n0_ := Aside0.mk (blk_below (g := gb156) (o := .cells #[.int .i16 a0_0, .int .i64 a0_1, .int .i64 a0_2, .int .i64 a0_3] 49 (0, 0)) (by (with_reducible repeat (first | refine blk_drewN ?_ _ | refine blk_drew ?_ | refine blk_alloc ?_ _)); exact BK156.out) hb)
          have n1_ := Aside0.mk (blk_below (g := gb157) (o := .cells #[.int .i64 a1_0, .int .i64 a1_1, .int .i64 a1_2] 50 (0, 0)) (by (with_reducible repeat (first | refine blk_drewN ?_ _ | refine blk_drew ?_ | refine blk_alloc ?_ _)); exact BK157.out) hb)
          have n2_ := Aside0.mk (blk_below (g := gb158) (o := .cells #[.int .u8 a2_0, .int .u8 a2_1, .int .u8 a2_2, .int .u8 a2_3, .int .u8 a2_4, .int .u8 a2_5, .int .u8 a2_6, .int .u8 a2_7] 71 (0, 0)) (by (with_reducible repeat (first | refine blk_drewN ?_ _ | refine blk_drew ?_ | refine blk_alloc ?_ _)); exact BK158.out) hb)
          have n3_ := Aside0.mk (blk_below (g := gb175) (o := .cells #[.int .i16 t171, .int .i64 t172, .int .i64 t173, .int .i64 t174] 46 (0, 0)) (by (with_reducible repeat (first | refine blk_drewN ?_ _ | refine blk_drew ?_ | refine blk_alloc ?_ _)); exact BK175.out) hb)
          have n4_ := Aside0.mk (below_step (by repeat (first | (with_reducible first | exact HB.out | apply below_alloc | apply pw_below_drewN | apply below_drew1 | refine below_set ?_ GE156.out | refine below_set ?_ GE157.out | refine below_set ?_ GE158.out | refine below_set ?_ GE175.out) | exact HB.out)) hb)
          clear BK156
          clear BK157
          clear BK158
          clear BK175
          clear HB
          have BK156 := n0_
          have BK157 := n1_
          have BK158 := n2_
          have BK175 := n3_
          have HB := n4_
          clear n0_ n1_ n2_ n3_ n4_
          (try clear hb)
          (try clear hb2)
          (try clear hk)
          (try clear hi)
          refine hK.out _ _ ⟨(blk_cell BK156.out 0).trans rfl, (blk_cell BK156.out 1).trans rfl, (blk_cell BK156.out 2).trans rfl, (blk_cell BK156.out 3).trans rfl⟩ (fun hHeld => ?_)
          clear hK K
          refine norm_ (a' := ?_) ?_ ?_
          rotate_left
          · show Act.put _ (some 45) _ = _
            simp only [Act.put, List.setIfInBounds_toArray, List.set_cons_zero, List.set_cons_succ, i64_w, i32_w]
            rfl
          refine pure_ (i := 2) (N := some 46) (v := ?_) (a' := ?_) #[true, true, true, false, false, false, false, false, false, false, false, false, false, false, false, false, false, false, false, false, false, false, false, false, false, false, false, false] rfl rfl (any_of HT_.out (by kernel_rfl)) (fun _ _ _ h => h) (Or.inl ⟨by rfl, ?_⟩) ?_ ?_
          rotate_left
          · intro w'
            go_simp
            with_reducible rfl
          rotate_left
          · simp only [Act.put, List.setIfInBounds_toArray, List.set_cons_zero, List.set_cons_succ, i64_w, i32_w]
            rfl
          refine pure_ (i := 3) (N := some 47) (v := ?_) (a' := ?_) #[true, true, true, true, false, false, false, false, false, false, false, false, false, false, false, false, false, false, false, false, false, false, false, false, false, false, false, false] rfl rfl (any_of HT_.out (by kernel_rfl)) (fun _ _ _ h => h) (Or.inl ⟨by rfl, ?_⟩) ?_ ?_
          rotate_left
          · intro w'
            go_simp
            with_reducible rfl
          rotate_left
          · simp only [Act.put, List.setIfInBounds_toArray, List.set_cons_zero, List.set_cons_succ, i64_w, i32_w]
            rfl
          refine pure_ (i := 4) (N := some 48) (v := undef) (a' := ?_) #[true, true, true, true, true, false, false, false, false, false, false, false, false, false, false, false, false, false, false, false, false, false, false, false, false, false, false, false] rfl rfl (any_of HT_.out (by kernel_rfl)) (fun _ _ _ h => h) (Or.inr ⟨by rfl, rfl⟩) ?_ ?_
          rotate_left
          · simp only [Act.put, List.setIfInBounds_toArray, List.set_cons_zero, List.set_cons_succ, i64_w, i32_w]
            rfl
          refine pure_ (i := 5) (N := some 49) (v := undef) (a' := ?_) #[true, true, true, true, true, true, false, false, false, false, false, false, false, false, false, false, false, false, false, false, false, false, false, false, false, false, false, false] rfl rfl (any_of HT_.out (by kernel_rfl)) (fun _ _ _ h => h) (Or.inr ⟨by rfl, rfl⟩) ?_ ?_
          rotate_left
          · simp only [Act.put, List.setIfInBounds_toArray, List.set_cons_zero, List.set_cons_succ, i64_w, i32_w]
            rfl
          refine pure_ (i := 6) (N := some 50) (v := undef) (a' := ?_) #[true, true, true, true, true, true, true, false, false, false, false, false, false, false, false, false, false, false, false, false, false, false, false, false, false, false, false, false] rfl rfl (any_of HT_.out (by kernel_rfl)) (fun _ _ _ h => h) (Or.inr ⟨by rfl, rfl⟩) ?_ ?_
          rotate_left
          · simp only [Act.put, List.setIfInBounds_toArray, List.set_cons_zero, List.set_cons_succ, i64_w, i32_w]
            rfl
          refine pure_ (i := 7) (N := some 51) (v := undef) (a' := ?_) #[true, true, true, true, true, true, true, true, false, false, false, false, false, false, false, false, false, false, false, false, false, false, false, false, false, false, false, false] rfl rfl (any_of HT_.out (by kernel_rfl)) (fun _ _ _ h => h) (Or.inr ⟨by rfl, rfl⟩) ?_ ?_
          rotate_left
          · simp only [Act.put, List.setIfInBounds_toArray, List.set_cons_zero, List.set_cons_succ, i64_w, i32_w]
            rfl
          refine pure_ (i := 8) (N := some 52) (v := undef) (a' := ?_) #[true, true, true, true, true, true, true, true, true, false, false, false, false, false, false, false, false, false, false, false, false, false, false, false, false, false, false, false] rfl rfl (any_of HT_.out (by kernel_rfl)) (fun _ _ _ h => h) (Or.inr ⟨by rfl, rfl⟩) ?_ ?_
          rotate_left
          · simp only [Act.put, List.setIfInBounds_toArray, List.set_cons_zero, List.set_cons_succ, i64_w, i32_w]
            rfl
          refine pure_ (i := 9) (N := some 53) (v := undef) (a' := ?_) #[true, true, true, true, true, true, true, true, true, true, false, false, false, false, false, false, false, false, false, false, false, false, false, false, false, false, false, false] rfl rfl (any_of HT_.out (by kernel_rfl)) (fun _ _ _ h => h) (Or.inr ⟨by rfl, rfl⟩) ?_ ?_
          rotate_left
          · simp only [Act.put, List.setIfInBounds_toArray, List.set_cons_zero, List.set_cons_succ, i64_w, i32_w]
            rfl
          refine pure_ (i := 10) (N := some 54) (v := undef) (a' := ?_) #[true, true, true, true, true, true, true, true, true, true, true, false, false, false, false, false, false, false, false, false, false, false, false, false, false, false, false, false] rfl rfl (any_of HT_.out (by kernel_rfl)) (fun _ _ _ h => h) (Or.inr ⟨by rfl, rfl⟩) ?_ ?_
          rotate_left
          · simp only [Act.put, List.setIfInBounds_toArray, List.set_cons_zero, List.set_cons_succ, i64_w, i32_w]
            rfl
          refine pure_ (i := 11) (N := some 55) (v := undef) (a' := ?_) #[true, true, true, true, true, true, true, true, true, true, true, true, false, false, false, false, false, false, false, false, false, false, false, false, false, false, false, false] rfl rfl (any_of HT_.out (by kernel_rfl)) (fun _ _ _ h => h) (Or.inr ⟨by rfl, rfl⟩) ?_ ?_
          rotate_left
          · simp only [Act.put, List.setIfInBounds_toArray, List.set_cons_zero, List.set_cons_succ, i64_w, i32_w]
            rfl
          refine pure_ (i := 12) (N := some 56) (v := undef) (a' := ?_) #[true, true, true, true, true, true, true, true, true, true, true, true, true, false, false, false, false, false, false, false, false, false, false, false, false, false, false, false] rfl rfl (any_of HT_.out (by kernel_rfl)) (fun _ _ _ h => h) (Or.inr ⟨by rfl, rfl⟩) ?_ ?_
          rotate_left
          · simp only [Act.put, List.setIfInBounds_toArray, List.set_cons_zero, List.set_cons_succ, i64_w, i32_w]
            rfl
          refine pure_ (i := 13) (N := some 57) (v := undef) (a' := ?_) #[true, true, true, true, true, true, true, true, true, true, true, true, true, true, false, false, false, false, false, false, false, false, false, false, false, false, false, false] rfl rfl (any_of HT_.out (by kernel_rfl)) (fun _ _ _ h => h) (Or.inr ⟨by rfl, rfl⟩) ?_ ?_
          rotate_left
          · simp only [Act.put, List.setIfInBounds_toArray, List.set_cons_zero, List.set_cons_succ, i64_w, i32_w]
            rfl
          refine pure_ (i := 14) (N := some 58) (v := undef) (a' := ?_) #[true, true, true, true, true, true, true, true, true, true, true, true, true, true, true, false, false, false, false, false, false, false, false, false, false, false, false, false] rfl rfl (any_of HT_.out (by kernel_rfl)) (fun _ _ _ h => h) (Or.inr ⟨by rfl, rfl⟩) ?_ ?_
          rotate_left
          · simp only [Act.put, List.setIfInBounds_toArray, List.set_cons_zero, List.set_cons_succ, i64_w, i32_w]
            rfl
          refine pure_ (i := 15) (N := some 59) (v := undef) (a' := ?_) #[true, true, true, true, true, true, true, true, true, true, true, true, true, true, true, true, false, false, false, false, false, false, false, false, false, false, false, false] rfl rfl (any_of HT_.out (by kernel_rfl)) (fun _ _ _ h => h) (Or.inr ⟨by rfl, rfl⟩) ?_ ?_
          rotate_left
          · simp only [Act.put, List.setIfInBounds_toArray, List.set_cons_zero, List.set_cons_succ, i64_w, i32_w]
            rfl
          refine pure_ (i := 16) (N := some 60) (v := undef) (a' := ?_) #[true, true, true, true, true, true, true, true, true, true, true, true, true, true, true, true, true, false, false, false, false, false, false, false, false, false, false, false] rfl rfl (any_of HT_.out (by kernel_rfl)) (fun _ _ _ h => h) (Or.inr ⟨by rfl, rfl⟩) ?_ ?_
          rotate_left
          · simp only [Act.put, List.setIfInBounds_toArray, List.set_cons_zero, List.set_cons_succ, i64_w, i32_w]
            rfl
          refine pure_ (i := 17) (N := some 61) (v := undef) (a' := ?_) #[true, true, true, true, true, true, true, true, true, true, true, true, true, true, true, true, true, true, false, false, false, false, false, false, false, false, false, false] rfl rfl (any_of HT_.out (by kernel_rfl)) (fun _ _ _ h => h) (Or.inr ⟨by rfl, rfl⟩) ?_ ?_
          rotate_left
          · simp only [Act.put, List.setIfInBounds_toArray, List.set_cons_zero, List.set_cons_succ, i64_w, i32_w]
            rfl
          refine pure_ (i := 18) (N := some 62) (v := undef) (a' := ?_) #[true, true, true, true, true, true, true, true, true, true, true, true, true, true, true, true, true, true, true, false, false, false, false, false, false, false, false, false] rfl rfl (any_of HT_.out (by kernel_rfl)) (fun _ _ _ h => h) (Or.inr ⟨by rfl, rfl⟩) ?_ ?_
          rotate_left
          · simp only [Act.put, List.setIfInBounds_toArray, List.set_cons_zero, List.set_cons_succ, i64_w, i32_w]
            rfl
          refine pure_ (i := 19) (N := some 63) (v := undef) (a' := ?_) #[true, true, true, true, true, true, true, true, true, true, true, true, true, true, true, true, true, true, true, true, false, false, false, false, false, false, false, false] rfl rfl (any_of HT_.out (by kernel_rfl)) (fun _ _ _ h => h) (Or.inr ⟨by rfl, rfl⟩) ?_ ?_
          rotate_left
          · simp only [Act.put, List.setIfInBounds_toArray, List.set_cons_zero, List.set_cons_succ, i64_w, i32_w]
            rfl
          refine pure_ (i := 20) (N := some 64) (v := undef) (a' := ?_) #[true, true, true, true, true, true, true, true, true, true, true, true, true, true, true, true, true, true, true, true, true, false, false, false, false, false, false, false] rfl rfl (any_of HT_.out (by kernel_rfl)) (fun _ _ _ h => h) (Or.inr ⟨by rfl, rfl⟩) ?_ ?_
          rotate_left
          · simp only [Act.put, List.setIfInBounds_toArray, List.set_cons_zero, List.set_cons_succ, i64_w, i32_w]
            rfl
          refine pure_ (i := 21) (N := some 65) (v := undef) (a' := ?_) #[true, true, true, true, true, true, true, true, true, true, true, true, true, true, true, true, true, true, true, true, true, true, false, false, false, false, false, false] rfl rfl (any_of HT_.out (by kernel_rfl)) (fun _ _ _ h => h) (Or.inr ⟨by rfl, rfl⟩) ?_ ?_
          rotate_left
          · simp only [Act.put, List.setIfInBounds_toArray, List.set_cons_zero, List.set_cons_succ, i64_w, i32_w]
            rfl
          refine pure_ (i := 22) (N := some 66) (v := undef) (a' := ?_) #[true, true, true, true, true, true, true, true, true, true, true, true, true, true, true, true, true, true, true, true, true, true, true, false, false, false, false, false] rfl rfl (any_of HT_.out (by kernel_rfl)) (fun _ _ _ h => h) (Or.inr ⟨by rfl, rfl⟩) ?_ ?_
          rotate_left
          · simp only [Act.put, List.setIfInBounds_toArray, List.set_cons_zero, List.set_cons_succ, i64_w, i32_w]
            rfl
          refine pure_ (i := 23) (N := some 67) (v := undef) (a' := ?_) #[true, true, true, true, true, true, true, true, true, true, true, true, true, true, true, true, true, true, true, true, true, true, true, true, false, false, false, false] rfl rfl (any_of HT_.out (by kernel_rfl)) (fun _ _ _ h => h) (Or.inr ⟨by rfl, rfl⟩) ?_ ?_
          rotate_left
          · simp only [Act.put, List.setIfInBounds_toArray, List.set_cons_zero, List.set_cons_succ, i64_w, i32_w]
            rfl
          refine pure_ (i := 24) (N := some 68) (v := undef) (a' := ?_) #[true, true, true, true, true, true, true, true, true, true, true, true, true, true, true, true, true, true, true, true, true, true, true, true, true, false, false, false] rfl rfl (any_of HT_.out (by kernel_rfl)) (fun _ _ _ h => h) (Or.inr ⟨by rfl, rfl⟩) ?_ ?_
          rotate_left
          · simp only [Act.put, List.setIfInBounds_toArray, List.set_cons_zero, List.set_cons_succ, i64_w, i32_w]
            rfl
          refine pure_ (i := 25) (N := some 69) (v := undef) (a' := ?_) #[true, true, true, true, true, true, true, true, true, true, true, true, true, true, true, true, true, true, true, true, true, true, true, true, true, true, false, false] rfl rfl (any_of HT_.out (by kernel_rfl)) (fun _ _ _ h => h) (Or.inr ⟨by rfl, rfl⟩) ?_ ?_
          rotate_left
          · simp only [Act.put, List.setIfInBounds_toArray, List.set_cons_zero, List.set_cons_succ, i64_w, i32_w]
            rfl
          refine pure_ (i := 26) (N := some 70) (v := ?_) (a' := ?_) #[true, true, true, true, true, true, true, true, true, true, true, true, true, true, true, true, true, true, true, true, true, true, true, true, true, true, true, false] rfl rfl (any_of HT_.out (by kernel_rfl)) (fun _ _ _ h => h) (Or.inl ⟨by rfl, ?_⟩) ?_ ?_
          rotate_left
          · intro w'
            go_simp
            with_reducible rfl
          rotate_left
          · simp only [Act.put, List.setIfInBounds_toArray, List.set_cons_zero, List.set_cons_succ, i64_w, i32_w]
            rfl
          refine pure_ (i := 27) (N := some 6) (v := ?_) (a' := ?_) #[true, true, true, true, true, true, true, true, true, true, true, true, true, true, true, true, true, true, true, true, true, true, true, true, true, true, true, true] rfl rfl (any_of HT_.out (by kernel_rfl)) (fun _ _ _ h => h) (Or.inl ⟨by rfl, ?_⟩) ?_ ?_
          rotate_left
          · intro w'
            go_simp
            with_reducible rfl
          rotate_left
          · simp only [Act.put, List.setIfInBounds_toArray, List.set_cons_zero, List.set_cons_succ, i64_w, i32_w]
            rfl
          refine done_ (done_of HT_.out (by kernel_rfl)) ?_
          try go_wp2
          go_ret
          exact ⟨by first | rfl | (simp [errW_none, errW_some] <;> rfl) | (simp [*, errW_none, errW_some] <;> rfl), by repeat (first | (with_reducible first | exact HB.out | apply below_alloc | apply pw_below_drewN | apply below_drew1 | refine below_set ?_ GE156.out | refine below_set ?_ GE157.out | refine below_set ?_ GE158.out | refine below_set ?_ GE175.out) | exact HB.out)⟩
end Go.Proofs.Ytgefhejpaojhbaa.Pr
