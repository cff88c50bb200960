/-
  What was laid down is read as it was, and what stands behind it is told; what is read may be: for every value, bytes and kind. (ValBack)
-/
import Derived.Test.YthooijfdlamkkaaPVbkx15
import Derived.Test.YthooijfdlamkkaaVbkA
namespace Go.Proofs.Ythooijfdlamkkaa.Pure
open Go.RowKit Go.Proofs.Ythooijfdlamkkaa.PVbk Go.Proofs.YthooijfdlamkkaaW.PrintWords Go.Proofs.YthooijfdlamkkaaW.PrintLast Go.Proofs.YthooijfdlamkkaaW.PrintMore Go.Proofs.Ythooijfdlamkkaa.Hand Go.Proofs.Ythooijfdlamkkaa.PureB

/-- What is read, whatever the kind. -/
theorem read_f (l : List Int) (k : Int) (hB : Bs l) (hl : l.length ≤ 140737488351232) (K : Nat) (hK : 30 ≤ K) :
    ∃ (v : S32) (rest : List Int) (e : Int), val_Of.f K l k = some (v.f0, v.f1, v.f2, rest, e) ∧ (e ≠ 0 → rest = []) ∧ (e = 0 → Wf v ∧ mayOf v = true ∧ l = vby v ++ rest) := by
  by_cases h0 : k = 0
  · subst h0
    refine ⟨⟨0, 0, ⟨#[]⟩⟩, l, 0, of_0 l (by omega) K, fun h => absurd rfl h, fun _ => ⟨⟨by show (-9223372036854775808 : Int) ≤ 0 ∧ (0 : Int) < 9223372036854775808; omega, by show (0 : Nat) ≤ _; omega⟩, may_zero, ?_⟩⟩
    unfold vby
    rw [if_neg (by decide), if_neg (by decide), if_neg (by decide), List.nil_append]
  · by_cases h1 : 1 ≤ k ∧ k ≤ 3
    · refine ⟨⟨(dec l k).1, (dec l k).2.1, (dec l k).2.2.1⟩, (dec l k).2.2.2.1, (dec l k).2.2.2.2, of_f l k hB (by omega) h1.1 h1.2 K (by omega), dec_rest l k, fun he => ?_⟩
      obtain ⟨⟨_, hw, hm⟩, h2⟩ := enc_dec hB hl h1.1 h1.2 he
      exact ⟨hw, hm, h2⟩
    · exact ⟨⟨0, 0, ⟨#[]⟩⟩, [], 1, of_no l k ⟨h0, h1⟩ K, fun _ => rfl, fun h => by cases h⟩
theorem str_append (a b : List Int) : strOfNums a ++ strOfNums b = strOfNums (a ++ b) := by
  have h : ∀ x y : ByteArray, x.data = y.data → x = y := by intro x y h; cases x; cases y; simpa using h
  refine h _ _ ?_
  rw [ByteArray.data_append]
  unfold strOfNums
  simp
theorem j0_f (l : List Int) (k : Int) (hB : Bs l) (hl : l.length ≤ 140737488351232) (K : Nat) (hK : 30 ≤ K) : law05_ValBack.j0 (K + 1) l k true = some true := by
  obtain ⟨v, rest, e, h1, h2, h3⟩ := read_f l k hB hl K hK
  rw [law05_ValBack.j0, h1]
  simp only [Option.bind_some]
  by_cases he : e = 0
  · obtain ⟨hw, hm, h4⟩ := h3 he
    have hr : rest.length ≤ l.length := by rw [h4, List.length_append]; omega
    have hv := vby_len hm
    rw [if_pos he, vbytes_f v hw K (by omega), hm, if_pos rfl, may_of v, hm]
    simp only [Option.bind_some, if_true]
    rw [if_pos (by rw [Hand.strOfNums_size, Hand.strOfNums_size]; omega), str_append, ← h4]
    simp
  · rw [if_neg he, h2 he]
    rfl
theorem ValBack : law05_ValBack.Pure := by
  intro a0 a1 a2 l k w0 w1 w2 _ hl hb _
  have hsh : law05_shown.f = some true := by decide +kernel
  have hB : Bs l := fun x hx => by
    have : 0 ≤ x ∧ x ≤ 255 := by simpa [Lit.wf, IntKind.min, IntKind.max, IntKind.signed, IntKind.bits] using hb x hx
    omega
  have hw : Wf ⟨a0, a1, a2⟩ := ⟨by
    have : -9223372036854775808 ≤ a1 ∧ a1 ≤ 9223372036854775807 := by simpa [Lit.wf, IntKind.min, IntKind.max, IntKind.signed, IntKind.bits] using w1
    show -9223372036854775808 ≤ a1 ∧ a1 < 9223372036854775808
    omega, w2⟩
  refine ⟨41, ?_⟩
  unfold law05_ValBack.f
  have hby := vbytes_f ⟨a0, a1, a2⟩ hw 41 (by omega)
  have hmy := may_of ⟨a0, a1, a2⟩
  simp only at hby hmy
  rw [hsh]
  simp only [Option.bind_some]
  rw [hby, hmy]
  cases hm : mayOf ⟨a0, a1, a2⟩ with
  | false =>
    simp only [Bool.false_eq_true, if_false, Option.bind_some]
    rw [if_neg (by decide), if_neg (by decide)]
    exact j0_f l k hB (by omega) 40 (by omega)
  | true =>
    have hv := vby_len hm
    simp only [if_true, Option.bind_some]
    rw [if_neg (by decide), List.nil_append, if_pos (by simp only [List.length_nil]; omega), if_pos (by omega), of_bytes hw hm l hB (by omega) 41 (by omega)]
    simp only [Option.bind_some, if_true]
    rw [if_neg (by simp)]
    exact j0_f l k hB (by omega) 40 (by omega)
end Go.Proofs.Ythooijfdlamkkaa.Pure
