/-
  The order of rows is that of their first unlike values; a row is behind its own beginning: for every two rows and every two values, of bulk at most 1048576. (ValRows, in the second form)
-/
import Derived.Test.YthooijfdlamkkaaUValRows
import Derived.Test.YthooijfdlamkkaaHOrd
namespace Go.Proofs.Ythooijfdlamkkaa.Pure
open Go.RowKit Go.Proofs.Ythooijfdlamkkaa.PVro Go.Proofs.YthooijfdlamkkaaW.PrintWords Go.Proofs.YthooijfdlamkkaaW.PrintLast Go.Proofs.YthooijfdlamkkaaW.PrintMore
open Go.Proofs.Ythooijfdlamkkaa.Hand (U cl ck cl_U u64 u64_U cmpI valCmp valMay strCmp)

theorem cmp64_f (a b : Int) : cmp_Compare_int64.f a b = some (cmpI a b) := by
  unfold cmp_Compare_int64.f cmp_isNaN_int64.f cmpI
  simp only [bne_self_eq_false, Option.bind_some]
  rw [if_neg (by simp), if_neg (by simp)]
  split
  · rfl
  · split <;> rfl
theorem cmpi_f (a b : Int) : cmp_Compare_int.f a b = some (cmpI a b) := by
  unfold cmp_Compare_int.f cmp_isNaN_int.f cmpI
  simp only [bne_self_eq_false, Option.bind_some]
  rw [if_neg (by simp), if_neg (by simp)]
  split
  · rfl
  · split <;> rfl
theorem key_f {a : Int} (h : U a) : flt_Key.f a = some (ck a) := Hand.fltKey_f h
theorem fcmp_f {a b : Int} (ha : U a) (hb : U b) : flt_Compare.f a b = some (cmpI (ck a) (ck b)) := by
  unfold flt_Compare.f
  rw [key_f ha, key_f hb]
  simp only [Option.bind_some, cmpI]
  split
  · rfl
  · split <;> rfl
theorem vcmp_f (k1 i1 : Int) (s1 : ByteArray) (k2 i2 : Int) (s2 : ByteArray) : val_Compare.f k1 i1 s1 k2 i2 s2 = some (valCmp k1 i1 s1 k2 i2 s2) := by
  unfold val_Compare.f valCmp
  have := fcmp_f (u64_U i1) (u64_U i2)
  unfold u64 at this
  rw [cmp64_f, this, cmpi_f]
  unfold cmp_Compare_string.f
  simp only [Option.bind_some]
  unfold u64
  split
  · split
    · rfl
    · split
      · rfl
      · split <;> rfl
  · rfl
/-- The order of two values. -/
def cv (x y : S23) : Int := valCmp x.f0 x.f1 x.f2 y.f0 y.f1 y.f2
theorem cv_range (x y : S23) : cv x y = -1 ∨ cv x y = 0 ∨ cv x y = 1 := Hand.valCmp_range ..
theorem cv_self (x : S23) : cv x x = 0 := Hand.valCmp_self ..
theorem cv_anti (x y : S23) : cv y x = - cv x y := Hand.valCmp_anti ..
/-- The order of two rows. -/
def rowCmp : List S23 → List S23 → Int
  | [], [] => 0
  | [], _ :: _ => -1
  | _ :: _, [] => 1
  | x :: a, y :: b => if cv x y = 0 then rowCmp a b else cv x y
theorem rowCmp_range : ∀ a b, rowCmp a b = -1 ∨ rowCmp a b = 0 ∨ rowCmp a b = 1
  | [], [] => .inr (.inl rfl)
  | [], _ :: _ => .inl rfl
  | _ :: _, [] => .inr (.inr rfl)
  | x :: a, y :: b => by
    unfold rowCmp
    split
    · exact rowCmp_range a b
    · exact cv_range x y
theorem rowCmp_anti : ∀ a b, rowCmp b a = - rowCmp a b
  | [], [] => rfl
  | [], _ :: _ => rfl
  | _ :: _, [] => rfl
  | x :: a, y :: b => by
    unfold rowCmp
    rw [cv_anti x y]
    by_cases h : cv x y = 0
    · rw [if_pos h, if_pos (by omega)]; exact rowCmp_anti a b
    · rw [if_neg h, if_neg (by omega)]
theorem rowCmp_pre : ∀ (a b c : List S23), rowCmp (a ++ b) (a ++ c) = rowCmp b c
  | [], _, _ => rfl
  | x :: a, b, c => by
    rw [List.cons_append, List.cons_append, rowCmp, if_pos (cv_self x)]
    exact rowCmp_pre a b c
theorem rowCmp_self (a : List S23) : rowCmp a a = 0 := by
  have := rowCmp_pre a [] []
  rwa [List.append_nil] at this

theorem rows_l (x0 x1 : List S23) (h0 : x0.length < 4398046511104) : ∀ (d : Nat) (k i : Nat), i + d = min x0.length x1.length → d < k →
    val_Rows.l0 k x0 x1 (mn (x0.length : Int) (x1.length : Int)) (i : Int) = some (rowCmp (x0.drop i) (x1.drop i)) := by
  have hm : mn (x0.length : Int) (x1.length : Int) = ((min x0.length x1.length : Nat) : Int) := by
    unfold mn; split <;> omega
  rw [hm]
  intro d
  induction d with
  | zero =>
    intro k i hi hk
    obtain ⟨k, rfl⟩ : ∃ m, k = m + 1 := ⟨k - 1, by omega⟩
    simp only [val_Rows.l0]
    rw [if_neg (by omega), cmpi_f]
    simp only [Option.bind_some, Option.some.injEq]
    rcases Nat.lt_trichotomy x0.length x1.length with h | h | h
    · rw [List.drop_eq_nil_of_le (show x0.length ≤ i by omega), List.drop_eq_getElem_cons (show i < x1.length by omega)]
      unfold cmpI rowCmp
      rw [if_pos (by omega)]
    · rw [List.drop_eq_nil_of_le (show x0.length ≤ i by omega), List.drop_eq_nil_of_le (show x1.length ≤ i by omega)]
      unfold cmpI rowCmp
      rw [if_neg (by omega), if_neg (by omega)]
    · rw [List.drop_eq_nil_of_le (show x1.length ≤ i by omega), List.drop_eq_getElem_cons (show i < x0.length by omega)]
      unfold cmpI rowCmp
      rw [if_neg (by omega), if_pos (by omega)]
  | succ d ih =>
    intro k i hi hk
    obtain ⟨k, rfl⟩ : ∃ m, k = m + 1 := ⟨k - 1, by omega⟩
    have g0 : i < x0.length := by omega
    have g1 : i < x1.length := by omega
    have r0 : rd_T23 x0 (i : Int) = x0[i] := by
      unfold rd_T23; rw [List.getD_eq_getElem?_getD, Int.toNat_natCast, List.getElem?_eq_getElem g0]; rfl
    have r1 : rd_T23 x1 (i : Int) = x1[i] := by
      unfold rd_T23; rw [List.getD_eq_getElem?_getD, Int.toNat_natCast, List.getElem?_eq_getElem g1]; rfl
    simp only [val_Rows.l0]
    rw [if_pos (by omega), if_pos (by omega), if_pos (by omega), if_pos (by omega), r0, r1, vcmp_f]
    simp only [Option.bind_some]
    rw [List.drop_eq_getElem_cons g0, List.drop_eq_getElem_cons g1]
    have hw : wrap64 ((i : Int) + 1) = ((i + 1 : Nat) : Int) := by unfold wrap64; omega
    unfold rowCmp
    show (if cv x0[i] x1[i] = 0 then _ else _) = _
    by_cases hc : cv x0[i] x1[i] = 0
    · rw [if_pos hc, if_pos hc, hw]
      exact ih k (i + 1) (by omega) (by omega)
    · rw [if_neg hc, if_neg hc]; rfl
theorem rows_f (k : Nat) (x0 x1 : List S23) (h0 : x0.length < 4398046511104) (hk : x0.length < k) : val_Rows.f k x0 x1 = some (rowCmp x0 x1) := by
  have := rows_l x0 x1 h0 (min x0.length x1.length) k 0 (by omega) (by omega)
  unfold val_Rows.f
  simpa using this

theorem sum_one {α : Type} : ∀ l : List α, (l.map (fun _ => 1)).sum = l.length
  | [] => rfl
  | _ :: l => by rw [List.map_cons, List.sum_cons, sum_one l, List.length_cons]; omega

theorem ValRowsUpto : law05_ValRows.PureU := by
  intro l0 l1 v0 v1 v2 w0 w1 w2 _ _ _ _ _ _ _ _ b0 b1
  replace b0 : (l0.map (fun _ => 1)).sum + 1 ≤ 1048576 := b0
  replace b1 : (l1.map (fun _ => 1)).sum + 1 ≤ 1048576 := b1
  rw [sum_one] at b0 b1
  have hs : law05_shown.f = some true := by
    unfold law05_shown.f val_Add.f
    rw [vcmp_f]
    unfold val_May.f
    simp [wrap64, valCmp, cmpI]
  refine ⟨3000001, ?_⟩
  unfold law05_ValRows.f
  rw [hs]
  simp only [Option.bind_some, List.nil_append, List.length_nil, List.length_cons, List.length_append, Nat.zero_add]
  rw [if_pos (by omega), if_pos (by omega), if_pos (by omega), if_pos (by omega), vcmp_f]
  simp only [Option.bind_some]
  have hj : law05_ValRows.j0 3000001 l0 l1 true (l0 ++ [⟨v0, v1, v2⟩]) false = some true := by
    simp only [law05_ValRows.j0]
    rw [if_neg (by decide), if_pos trivial]
    rw [rows_f _ _ _ (by omega) (by omega), rows_f _ _ _ (by simp; omega) (by simp; omega), rows_f _ _ _ (by omega) (by omega), rows_f _ _ _ (by omega) (by omega), rows_f _ _ _ (by omega) (by omega)]
    have e1 : rowCmp l0 (l0 ++ [⟨v0, v1, v2⟩]) = -1 := by
      have := rowCmp_pre l0 [] [⟨v0, v1, v2⟩]
      rwa [List.append_nil] at this
    have e2 : rowCmp (l0 ++ [⟨v0, v1, v2⟩]) l0 = 1 := by rw [rowCmp_anti, e1]; rfl
    rw [e1, e2, rowCmp_self, rowCmp_anti l0 l1]
    simp only [Option.bind_some, if_true]
    rcases rowCmp_range l0 l1 with e | e | e <;> rw [e] <;> decide +kernel
  by_cases hc : valCmp v0 v1 v2 w0 w1 w2 = 0
  · rw [if_pos hc]; exact hj
  · rw [if_neg hc]
    unfold val_Clean.f
    rw [if_pos (by simp; omega), rows_f _ _ _ (by simp; omega) (by simp; omega)]
    have e : rowCmp (l0 ++ [⟨v0, v1, v2⟩] ++ l1) (l0 ++ [⟨w0, w1, w2⟩]) = valCmp v0 v1 v2 w0 w1 w2 := by
      rw [List.append_assoc, rowCmp_pre, List.singleton_append, rowCmp]
      exact if_neg hc
    simp only [Option.bind_some]
    rw [e, bne_self_eq_false]
    exact hj
end Go.Proofs.Ythooijfdlamkkaa.Pure
