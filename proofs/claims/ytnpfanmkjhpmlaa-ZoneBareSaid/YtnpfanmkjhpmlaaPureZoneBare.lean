/-
  Of a zone of nothing but nothing only that it is nothing holds; of one without rows each question holds of none: for every input. (ZoneBare)
-/
import Derived.Test.YtnpfanmkjhpmlaaPZonx14
import Derived.Test.YtnpfanmkjhpmlaaZonA
namespace Go.Proofs.Ytnpfanmkjhpmlaa.Pure
open Go.RowKit Go.Proofs.Ytnpfanmkjhpmlaa.PZon Go.Proofs.YtnpfanmkjhpmlaaW.PrintWords Go.Proofs.YtnpfanmkjhpmlaaW.PrintLast

theorem none_bare (n : Int) (hn : 0 < n) (c op k i : Int) (s : ByteArray) : zone_None.f n n 0 0 ⟨#[]⟩ 0 0 ⟨#[]⟩ c op k i s = some (op != 7) := by
  unfold zone_None.f
  by_cases h7 : op = 7
  · rw [if_pos h7]
    congr 1
    rw [h7, decide_eq_false (by omega)]; rfl
  · rw [if_neg h7]
    have e : (op != 7) = true := by simpa using h7
    rw [e]
    by_cases h8 : op = 8
    · rw [if_pos h8, decide_eq_true (by omega)]
    · rw [if_neg h8, if_pos (by omega), decide_eq_true (by omega)]
theorem none_empty (c op k i : Int) (s : ByteArray) : zone_None.f 0 0 0 0 ⟨#[]⟩ 0 0 ⟨#[]⟩ c op k i s = some true := by
  unfold zone_None.f
  by_cases h7 : op = 7
  · rw [if_pos h7]; rfl
  · rw [if_neg h7]
    by_cases h8 : op = 8
    · rw [if_pos h8]; rfl
    · rw [if_neg h8, if_pos (by omega)]; rfl
theorem every_bare (n : Int) (hn : 0 < n) (c op k i : Int) (s : ByteArray) : zone_Every.f n n 0 0 ⟨#[]⟩ 0 0 ⟨#[]⟩ c op k i s = some (op == 7) := by
  unfold zone_Every.f
  by_cases h7 : op = 7
  · rw [if_pos h7, decide_eq_true (by omega), h7]; rfl
  · rw [if_neg h7]
    have e : (op == 7) = false := by simpa using h7
    rw [e]
    by_cases h8 : op = 8
    · rw [if_pos h8, decide_eq_false (by omega)]
    · rw [if_neg h8]
      unfold zone_turned.f
      simp only [Option.bind_some]
      split
      · rfl
      · first | rfl | rw [if_pos (by omega)]
theorem join_l (n : Int) (hn : 0 < n ∧ n < 1000) : zone_Join.f 0 0 0 0 ⟨#[]⟩ 0 0 ⟨#[]⟩ n n 0 0 ⟨#[]⟩ 0 0 ⟨#[]⟩ = some (n, n, 0, 0, ⟨#[]⟩, 0, 0, ⟨#[]⟩) := by
  unfold zone_Join.f
  rw [if_pos rfl, show wrap64 (0 + n) = n by unfold wrap64; omega]
theorem join_r (n : Int) (hn : 0 < n ∧ n < 1000) : zone_Join.f n n 0 0 ⟨#[]⟩ 0 0 ⟨#[]⟩ 0 0 0 0 ⟨#[]⟩ 0 0 ⟨#[]⟩ = some (n, n, 0, 0, ⟨#[]⟩, 0, 0, ⟨#[]⟩) := by
  unfold zone_Join.f
  rw [if_pos rfl, show wrap64 (n + 0) = n by unfold wrap64; omega]
theorem ZoneBare : law14_ZoneBare.Pure := by
  intro a0 c op k i s h0 h1 h2 h3 h4 h5
  have hb : 0 ≤ a0 ∧ a0 ≤ 255 := by simpa [Lit.wf, IntKind.min, IntKind.max, IntKind.signed, IntKind.bits] using h0
  refine ⟨1, ?_⟩
  unfold law14_ZoneBare.f
  rw [shown_true]
  simp only [Option.bind_some]
  obtain ⟨n, hn, e⟩ : ∃ n : Int, (0 < n ∧ n < 1000) ∧ wrap64 (1 + wrap64 a0) = n := ⟨1 + a0, by omega, by unfold wrap64; omega⟩
  rw [e]
  by_cases ho : 1 ≤ op ∧ op ≤ 8
  · rw [if_neg (by omega), decide_eq_false (by omega)]
    simp only [law14_ZoneBare.j0, Bool.false_eq_true, if_false, if_true, none_bare n hn.1, every_bare n hn.1, none_empty, join_l n hn, join_r n hn, Option.bind_some, beq_self_eq_true, Bool.and_self]
  · have hj : law14_ZoneBare.j0 1 true true c op k i s n n 0 0 ⟨#[]⟩ 0 0 ⟨#[]⟩ = some true := by
      have e7 : (op != 7) = true := by simp; omega
      have e8 : (op == 7) = false := by simp; omega
      simp only [law14_ZoneBare.j0, if_true, none_bare n hn.1, every_bare n hn.1, Option.bind_some, e7, e8, Bool.not_false]
    split
    · exact hj
    · rw [decide_eq_true (by omega)]; exact hj
end Go.Proofs.Ytnpfanmkjhpmlaa.Pure
