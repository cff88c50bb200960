/-
  Of any three values there is one order; of two that may be, and of which neither is ahead, both are the same. (ValOne)
-/
import Derived.Test.YthooijfdlamkkaaPVonx9
import Derived.Test.YthooijfdlamkkaaHOrd
namespace Go.Proofs.Ythooijfdlamkkaa.Pure
open Go.RowKit Go.Proofs.Ythooijfdlamkkaa.PVon Go.Proofs.YthooijfdlamkkaaW.PrintWords Go.Proofs.YthooijfdlamkkaaW.PrintLast
open Go.Proofs.Ythooijfdlamkkaa.Hand (U cl ck cl_U u64 u64_U cmpI valCmp valMay strCmp)

theorem wf_i64 {x : Int} (h : (Lit.int .i64 x).wf = true) : -9223372036854775808 ≤ x ∧ x < 9223372036854775808 := by
  have h2 : -9223372036854775808 ≤ x ∧ x ≤ 9223372036854775807 := by simpa [Lit.wf, IntKind.min, IntKind.max, IntKind.signed, IntKind.bits] using h
  exact ⟨h2.1, by omega⟩
theorem cmp64_f (a b : Int) : cmp_Compare_int64.f a b = some (cmpI a b) := by
  unfold cmp_Compare_int64.f cmp_isNaN_int64.f cmpI
  simp only [bne_self_eq_false, Option.bind_some]
  rw [if_neg (by simp), if_neg (by simp)]
  split
  · rfl
  · split <;> rfl
theorem cmpi_f (a b : Int) : cmp_Compare_int.f a b = some (cmpI a b) := by
  unfold cmp_Compare_int.f cmp_isNaN_int.f cmpI
  simp only [bne_self_eq_false, Option.bind_some]
  rw [if_neg (by simp), if_neg (by simp)]
  split
  · rfl
  · split <;> rfl
theorem key_f {a : Int} (h : U a) : flt_Key.f a = some (ck a) := Hand.fltKey_f h
theorem fcmp_f {a b : Int} (ha : U a) (hb : U b) : flt_Compare.f a b = some (cmpI (ck a) (ck b)) := by
  unfold flt_Compare.f
  rw [key_f ha, key_f hb]
  simp only [Option.bind_some, cmpI]
  split
  · rfl
  · split <;> rfl
theorem vcmp_f (k1 i1 : Int) (s1 : ByteArray) (k2 i2 : Int) (s2 : ByteArray) : val_Compare.f k1 i1 s1 k2 i2 s2 = some (valCmp k1 i1 s1 k2 i2 s2) := by
  unfold val_Compare.f valCmp
  have := fcmp_f (u64_U i1) (u64_U i2)
  unfold u64 at this
  rw [cmp64_f, this, cmpi_f]
  unfold cmp_Compare_string.f
  simp only [Option.bind_some]
  unfold u64
  split
  · split
    · rfl
    · split
      · rfl
      · split <;> rfl
  · rfl
theorem empty_bool (s : ByteArray) : (s.toList == ([] : List UInt8)) = decide (s.size = 0) := by
  rw [ByteArray.toList_eq, Bool.eq_iff_iff, beq_iff_eq, decide_eq_true_iff]
  cases s with | mk d => simp [ByteArray.size]
theorem may_f (k i : Int) (s : ByteArray) : val_May.f k i s = some (valMay k i s) := by
  have hc : flt_Clean.f (IntKind.u64.wrap i) = some (cl (u64 i)) := Hand.fltClean_f (u64_U i)
  unfold val_May.f valMay
  rw [hc, empty_bool]
  simp only [Option.bind_some]
  by_cases c2 : k = 2
  · subst c2
    rw [if_pos rfl]
    show _ = some (decide (s.size = 0) && decide (cl (u64 i) = u64 i))
    by_cases e : IntKind.u64.wrap i = cl (u64 i)
    · have e2 : cl (u64 i) = u64 i := e.symm
      rw [if_pos e, decide_eq_true e2, Bool.and_true]
    · have e2 : ¬ cl (u64 i) = u64 i := fun q => e q.symm
      rw [if_neg e, decide_eq_false e2, Bool.and_false]
  · rw [if_neg c2]
    by_cases c1 : k = 1
    · subst c1
      rw [if_pos rfl]
      rfl
    · rw [if_neg c1]
      by_cases c3 : k = 3
      · subst c3
        rw [if_pos rfl]
        show _ = some (decide (i = 0) && decide (s.size ≤ 1024))
        by_cases e : i = 0
        · rw [if_pos e, decide_eq_true e, Bool.true_and]
          congr 1
          rw [decide_eq_decide]
          omega
        · rw [if_neg e, decide_eq_false e, Bool.false_and]
      · rw [if_neg c3]
        by_cases c0 : k = 0
        · subst c0
          rw [if_pos rfl, if_pos rfl]
          congr 1
        · rw [if_neg c0, if_neg c0, if_neg c1, if_neg c2, if_neg c3]
theorem strict {k1 i1 : Int} {s1 : ByteArray} {k2 i2 : Int} {s2 : ByteArray} {k3 i3 : Int} {s3 : ByteArray} (h1 : valCmp k1 i1 s1 k2 i2 s2 < 0) (h2 : valCmp k2 i2 s2 k3 i3 s3 < 0) : valCmp k1 i1 s1 k3 i3 s3 < 0 := by
  apply Int.not_le.1
  intro h
  have a := Hand.valCmp_anti k1 i1 s1 k3 i3 s3
  have b := Hand.valCmp_trans (k1 := k2) (i1 := i2) (s1 := s2) (k2 := k3) (i2 := i3) (s2 := s3) (k3 := k1) (i3 := i1) (s3 := s1) (by omega) (by omega)
  have c := Hand.valCmp_anti k1 i1 s1 k2 i2 s2
  omega

set_option maxHeartbeats 2000000 in
theorem ValOne : law05_ValOne.Pure := by
  intro k1 i1 s1 k2 i2 s2 k3 i3 s3 _ hi1 _ _ hi2 _ _ hi3 _
  have hi1 := wf_i64 hi1
  have hi2 := wf_i64 hi2
  have hs : law05_shown.f = some true := by
    unfold law05_shown.f val_Add.f
    rw [vcmp_f, may_f]
    simp [wrap64, valCmp, cmpI, valMay, ByteArray.size]
  have hx := Hand.valCmp_range k1 i1 s1 k2 i2 s2
  have hy := Hand.valCmp_range k2 i2 s2 k3 i3 s3
  have hz := Hand.valCmp_range k1 i1 s1 k3 i3 s3
  have h1 := fun p q => Hand.valCmp_trans (k1 := k1) (i1 := i1) (s1 := s1) (k2 := k2) (i2 := i2) (s2 := s2) (k3 := k3) (i3 := i3) (s3 := s3) p q
  have h2 := fun p q => strict (k1 := k1) (i1 := i1) (s1 := s1) (k2 := k2) (i2 := i2) (s2 := s2) (k3 := k3) (i3 := i3) (s3 := s3) p q
  have hE : (k1 == k2 && (i1 == i2 && (s1.toList == s2.toList))) = true ↔ (k1 = k2 ∧ i1 = i2 ∧ s1 = s2) := by
    have e : s1.toList = s2.toList ↔ s1 = s2 := ⟨fun r => by rw [ByteArray.toList_eq, ByteArray.toList_eq] at r; cases s1; cases s2; simpa using r, fun r => by rw [r]⟩
    simp only [Bool.and_eq_true, beq_iff_eq, e]
  have hm := fun p q => (Hand.valCmp_zero (k1 := k1) (i1 := i1) (s1 := s1) (k2 := k2) (i2 := i2) (s2 := s2) hi1 hi2 p q).trans hE.symm
  unfold law05_ValOne.f
  rw [hs]
  simp only [Option.bind_some]
  simp only [vcmp_f, may_f, Option.bind_some, Hand.valCmp_self, Hand.valCmp_anti k1 i1 s1 k2 i2 s2]
  generalize valCmp k1 i1 s1 k2 i2 s2 = x at *
  generalize valCmp k2 i2 s2 k3 i3 s3 = y at *
  generalize valCmp k1 i1 s1 k3 i3 s3 = z at *
  generalize valMay k1 i1 s1 = m1 at *
  generalize valMay k2 i2 s2 = m2 at *
  clear hE
  generalize (k1 == k2 && (i1 == i2 && (s1.toList == s2.toList))) = E at *
  clear hs hi1 hi2 hi3
  have w0 : wrap64 (-(-1)) = 1 := by unfold wrap64; omega
  have w1 : wrap64 (-0) = 0 := by unfold wrap64; omega
  have w2 : wrap64 (-1) = -1 := by unfold wrap64; omega
  rcases hx with rfl | rfl | rfl <;> rcases hy with rfl | rfl | rfl <;> rcases hz with rfl | rfl | rfl <;>
    first
    | (exact absurd (h1 (by decide) (by decide)) (by decide))
    | (exact absurd (h2 (by decide) (by decide)) (by decide))
    | (clear h1 h2; cases m1 <;> cases m2 <;> cases E <;> simp_all)
end Go.Proofs.Ythooijfdlamkkaa.Pure
