/-
  The least value of a group is no greater than any of its, the greatest one no less; both are among them; of nothing there is none: for every input. (AggEnds)
-/
import Derived.Test.YtedgfhijkkedaaaPAggx13
import Derived.Test.YtedgfhijkkedaaaGpC
import Derived.Test.YtedgfhijkkedaaaGpF
import Derived.Test.YtedgfhijkkedaaaGpE
namespace Go.Proofs.Ytedgfhijkkedaaa.PAgg
open Go.RowKit Go.Proofs.YtedgfhijkkedaaaW.PrintWords Go.Proofs.YtedgfhijkkedaaaW.PrintLast
open Go.Proofs.Ytedgfhijkkedaaa.Hand (U cl ck cl_U u64 u64_U cmpI valCmp valMay strCmp)
set_option linter.unusedVariables false
set_option linter.unusedSimpArgs false

theorem at_f (r : List S39) (col : Int) : ref16_At.f r col = some ((atV r col).f0, (atV r col).f1, (atV r col).f2) := by
  unfold ref16_At.f atV
  by_cases h0 : col < 0
  · rw [if_pos h0, if_neg (by omega)]; rfl
  · rw [if_neg h0]
    by_cases h1 : col ≥ (r.length : Int)
    · rw [if_pos h1, if_neg (by omega)]; rfl
    · rw [if_neg h1, if_pos (by omega), if_pos (by omega), if_pos ⟨by omega, by omega⟩]
theorem rcv_f (x y : S39) (hs : x.f2.size ≤ 140737488351232) (k : Nat) (hk : 300000000000000 < k) : ref05_Compare.f k x.f0 x.f1 x.f2 y.f0 y.f1 y.f2 = some (cv x y) := rvcmp_f _ _ _ _ _ _ hs k (by omega)
theorem any_snoc {α : Type} (p : α → Bool) (l : List α) (x : α) : (l ++ [x]).any p = (l.any p || p x) := by simp
theorem ends_l0 (a : List (List S39)) (col : Int) (mn mx : S39) (ha : a.length ≤ 150) (hs : ∀ r ∈ a, ∀ v ∈ r, v.f2.size ≤ 140737488351232)
    (h1 : ∀ v ∈ colOf col a, 0 ≤ cv v mn) (h2 : ∀ v ∈ colOf col a, cv v mx ≤ 0) (h3 : colOf col a ≠ [] → mn ∈ colOf col a ∧ mx ∈ colOf col a) (h4 : colOf col a = [] → mn = z39 ∧ mx = z39) :
    ∀ (d k i : Nat), i + d = a.length → 300000000000010 + 3 * d < k →
      law20_AggEnds.l0 k col true a [[mn, mx]] ((colOf col (a.take i)).any (fun v => eqV v mn)) ((colOf col (a.take i)).any (fun v => eqV v mx)) (decide (colOf col (a.take i) ≠ [])) (i : Int) = some true := by
  have r0 : rd_L3 [[mn, mx]] 0 = [mn, mx] := rfl
  have r1 : rd_T39 [mn, mx] 0 = mn := rfl
  have r2 : rd_T39 [mn, mx] 1 = mx := rfl
  have n0 : (0 : Int) < (([[mn, mx]] : List (List S39)).length : Int) := by simp
  have n1 : (0 : Int) < (([mn, mx] : List S39).length : Int) := by simp
  have n2 : (1 : Int) < (([mn, mx] : List S39).length : Int) := by simp
  intro d
  induction d with
  | zero =>
    intro k i hi hk
    obtain ⟨k, rfl⟩ : ∃ m, k = m + 1 := ⟨k - 1, by omega⟩
    rw [law20_AggEnds.l0, if_neg (by omega), List.take_of_length_le (by omega)]
    by_cases c : colOf col a = []
    · obtain ⟨e1, e2⟩ := h4 c
      have hz : (z39.f0 == 0 && (z39.f1 == 0 && (z39.f2.toList == ([] : List UInt8)))) = true := by rw [ByteArray.toList_eq]; rfl
      rw [if_neg (by simp [c]), if_pos rfl, if_pos n0, r0, if_pos n1, r1, r2, e1, if_pos hz, if_pos (by simp), e2, hz]
    · obtain ⟨m1, m2⟩ := h3 c
      have hm1 : (colOf col a).any (fun v => eqV v mn) = true := List.any_eq_true.2 ⟨mn, m1, (eqV_iff _ _).2 rfl⟩
      have hm2 : (colOf col a).any (fun v => eqV v mx) = true := List.any_eq_true.2 ⟨mx, m2, (eqV_iff _ _).2 rfl⟩
      rw [if_pos (by simp [c]), if_pos rfl, if_pos hm1, hm2]
  | succ d ih =>
    intro k i hi hk
    obtain ⟨k, rfl⟩ : ∃ m, k = m + 3 := ⟨k - 3, by omega⟩
    have hlt : i < a.length := by omega
    have IH := ih k (i + 1) (by omega) (by omega)
    rw [List.take_succ_eq_append_getElem hlt, colOf_snoc] at IH
    rw [law20_AggEnds.l0, if_pos (by omega), if_pos (by omega), rdL3 _ _ hlt, at_f, Option.bind_some, w64n (by omega)]
    by_cases c : (atV a[i] col).f0 = 0
    · rw [if_pos c]
      rw [if_pos c, List.append_nil] at IH
      have step : ∀ (P Q R : Bool), law20_AggEnds.l0 k col true a [[mn, mx]] P Q R ((i + 1 : Nat) : Int) = some true → law20_AggEnds.l0 (k + 2) col true a [[mn, mx]] P Q R ((i + 1 : Nat) : Int) = some true := fun P Q R h => by
        have m1 := ((law20_AggEnds.mono_l k).2.1 _ _ _ _ _ _ _ _) _ h
        exact ((law20_AggEnds.mono_l (k + 1)).2.1 _ _ _ _ _ _ _ _) _ m1
      exact step _ _ _ IH
    · rw [if_neg c]
      rw [if_neg c, any_snoc, any_snoc] at IH
      have hvm : atV a[i] col ∈ colOf col a := List.mem_filter.2 ⟨List.mem_map.2 ⟨a[i], List.getElem_mem hlt, rfl⟩, by rw [decide_eq_true_eq]; exact c⟩
      obtain ⟨_, r', hr', hv', _⟩ := colOf_mem col a _ hvm
      have hsz := hs r' hr' _ hv'
      have c1 := h1 _ hvm
      have c2 := h2 _ hvm
      generalize atV a[i] col = v at *
      have hR : (decide (colOf col (a.take i) ++ [v] ≠ [])) = true := by simp
      rw [hR] at IH
      have e1 : (v.f0 == mn.f0 && (v.f1 == mn.f1 && (v.f2.toList == mn.f2.toList))) = eqV v mn := rfl
      have e2 : (v.f0 == mx.f0 && (v.f1 == mx.f1 && (v.f2.toList == mx.f2.toList))) = eqV v mx := rfl
      have j3 : ∀ P Q : Bool, law20_AggEnds.j3 (k + 1) col true a [[mn, mx]] P Q true (i : Int) v.f0 v.f1 v.f2 = law20_AggEnds.l0 k col true a [[mn, mx]] P Q true ((i + 1 : Nat) : Int) := fun P Q => by
        rw [law20_AggEnds.j3, if_pos n0, r0, if_pos n1, r1, rcv_f v mn hsz k (by omega), Option.bind_some, if_neg (by omega), if_pos n2, r2, rcv_f v mx hsz k (by omega), Option.bind_some, if_neg (by omega), w64n (by omega)]
      have j2 : ∀ P Q : Bool, law20_AggEnds.j2 (k + 2) col true a [[mn, mx]] P Q true (i : Int) v.f0 v.f1 v.f2 = law20_AggEnds.l0 k col true a [[mn, mx]] P (Q || eqV v mx) true ((i + 1 : Nat) : Int) := fun P Q => by
        rw [law20_AggEnds.j2]
        cases Q with
        | true => rw [if_pos rfl, j3, Bool.true_or]
        | false => rw [if_neg (by simp), if_pos n0, r0, if_pos n2, r2, e2, j3, Bool.false_or]
      cases hP : (colOf col (a.take i)).any (fun v => eqV v mn) with
      | true =>
        rw [if_pos rfl, j2]
        rw [hP, Bool.true_or] at IH
        exact IH
      | false =>
        rw [if_neg (by simp), if_pos n0, r0, if_pos n1, r1, e1, j2]
        rw [hP, Bool.false_or] at IH
        exact IH
end Go.Proofs.Ytedgfhijkkedaaa.PAgg
namespace Go.Proofs.Ytedgfhijkkedaaa.Pure
open Go.RowKit Go.Proofs.Ytedgfhijkkedaaa.PAgg Go.Proofs.YtedgfhijkkedaaaW.PrintWords Go.Proofs.YtedgfhijkkedaaaW.PrintLast
theorem AggEnds : PAgg.law20_AggEnds.Pure := by
  intro l0 col hw _
  refine ⟨400000000000000, ?_⟩
  unfold law20_AggEnds.f
  rw [shown_true, Option.bind_some, few_f l0 _ (by omega), Option.bind_some]
  have hb := few_len l0
  have hi : ∀ r ∈ fewOf l0, ∀ v ∈ r, i64V v ∧ v.f2.size ≤ 140737488351232 := by
    intro r hr v hv
    obtain ⟨r0, h0, h1⟩ := few_mem l0 r hr v hv
    have := (hw.2.2 r0 h0).2.2 v h1
    have h2 : -9223372036854775808 ≤ v.f1 ∧ v.f1 ≤ 9223372036854775807 := by simpa [Lit.wf, IntKind.min, IntKind.max, IntKind.signed, IntKind.bits] using this.2.1
    exact ⟨h2, this.2.2⟩
  generalize fewOf l0 = a at *
  have hcl := colOf_len col a
  have g1 := group_f 400000000000000 a 0 [(⟨3, col⟩ : S36), (⟨4, col⟩ : S36)] (by omega) (by omega) (by omega) (by simp) (fun r hr => by omega) (fun r hr v hv => (hi r hr v hv).1) (by omega)
  have e1 : (groupsF 0 a).any (errG [(⟨3, col⟩ : S36), (⟨4, col⟩ : S36)]) = false := rfl
  have e2 : (groupsF 0 a).map (rowG 0 [(⟨3, col⟩ : S36), (⟨4, col⟩ : S36)]) = [[endOf minOf (colOf col a), endOf maxOf (colOf col a)]] := rfl
  unfold agg_Group.f
  rw [g1, e1, e2, if_neg (by simp), Option.bind_some, if_pos rfl, if_pos (by simp), if_pos (by simp)]
  rw [show ((((rd_L3 [[endOf minOf (colOf col a), endOf maxOf (colOf col a)]] 0).length : Nat) : Int) != 2) = false from rfl]
  rw [show (400000000000000 : Nat) = 399999999999999 + 1 from rfl, law20_AggEnds.j0, if_neg (by simp)]
  refine ends_l0 a col _ _ hb (fun r hr v hv => (hi r hr v hv).2) (fun v hv => ?_) (fun v hv => ?_) (fun hne => ?_) (fun he => ?_) a.length 399999999999999 0 (by omega) (by omega)
  · have hp : 0 < (colOf col a).length := List.length_pos_of_mem hv
    unfold endOf
    rw [if_neg (by omega)]
    have := (min_spec _ hp).2 v hv
    rw [cv_anti]
    omega
  · have hp : 0 < (colOf col a).length := List.length_pos_of_mem hv
    unfold endOf
    rw [if_neg (by omega)]
    exact (max_spec _ hp).2 v hv
  · have hp : 0 < (colOf col a).length := List.length_pos_iff.2 hne
    unfold endOf
    rw [if_neg (by omega), if_neg (by omega)]
    exact ⟨(min_spec _ hp).1, (max_spec _ hp).1⟩
  · rw [he]; exact ⟨rfl, rfl⟩
end Go.Proofs.Ytedgfhijkkedaaa.Pure
