/-
  Of how many rows an atom may hold is none, all, or about half; with rows of values it is 0 just where None says so: for every input. (ZoneRows)
-/
import Derived.Test.YtnpfanmkjhpmlaaPZonx22
import Derived.Test.YtnpfanmkjhpmlaaZonC
namespace Go.Proofs.Ytnpfanmkjhpmlaa.Pure
open Go.RowKit Go.Proofs.Ytnpfanmkjhpmlaa.PZon Go.Proofs.YtnpfanmkjhpmlaaW.PrintWords Go.Proofs.YtnpfanmkjhpmlaaW.PrintLast Go.Proofs.YtnpfanmkjhpmlaaW.PrintMore
open Go.Proofs.Ytnpfanmkjhpmlaa.Hand (U cl ck cl_U u64 u64_U cmpI valCmp strCmp turnedOf)

theorem half_of (n : Nat) (h : n ≤ 500) : wrap64 (wrap64 (Int.tdiv (n : Int) 2) + mx (Int.tmod (n : Int) 2) 0) = ((n : Int) + 1) / 2 := by
  rw [Int.tdiv_eq_ediv_of_nonneg (by omega), Int.tmod_eq_emod_of_nonneg (by omega)]
  unfold wrap64 mx
  split <;> omega
theorem ZoneRows : law14_ZoneRows.Pure := by
  intro l kind c op ka ia sa hl h1 h2 h3 h4 h5 h6
  obtain ⟨hlen, hsz⟩ := sizes_of hl
  refine ⟨2 * 140737488351232 + 2000, ?_⟩
  generalize hK : 2 * 140737488351232 + 2000 = K
  unfold law14_ZoneRows.f
  rw [shown_true]
  obtain ⟨b, e, hb⟩ := few_f l kind hlen K (by omega)
  rw [e]
  simp only [Option.bind_some]
  obtain ⟨K, rfl⟩ : ∃ m, K = m + 1 := ⟨K - 1, by omega⟩
  simp only [law14_ZoneRows.j0, if_true]
  cases b with
  | false => rfl
  | true =>
    obtain ⟨h500, hk⟩ := hb rfl
    rw [if_pos rfl]
    split
    · rfl
    · by_cases h0 : (l.length : Int) = 0
      · rw [show ((l.length : Int) == 0) = true by simpa using h0, if_pos rfl]
      · rw [show ((l.length : Int) == 0) = false by simpa using h0, if_neg (by simp), zone_f l (by omega) 140737488351232 (Nat.le_refl _) hsz K (by omega)]
        have hne : l ≠ [] := by rintro rfl; exact h0 rfl
        have hnb := not_both (l := l) (kind := kind) hk (op := op) (a := ⟨ka, ia, sa⟩) hne
        have hN := none_f (l.length : Int) (zNulls l) (zMin l) (zMax l) ⟨ka, ia, sa⟩ c op
        have hE := every_f (l.length : Int) (zNulls l) (zMin l) (zMax l) ⟨ka, ia, sa⟩ c op
        generalize noneP l.length (zNulls l) (zMin l) (zMax l) op ⟨ka, ia, sa⟩ = x at *
        generalize everyP l.length (zNulls l) (zMin l) (zMax l) op ⟨ka, ia, sa⟩ = y at *
        simp only [Option.bind_some]
        unfold zone_Rows.f
        simp only [show zone_None.f _ _ _ _ _ _ _ _ c op ka ia sa = _ from hN, show zone_Every.f _ _ _ _ _ _ _ _ c op ka ia sa = _ from hE, Option.bind_some]
        have hh := half_of l.length h500
        have hq : wrap64 (Int.tdiv (wrap64 ((l.length : Int) + 1)) 2) = ((l.length : Int) + 1) / 2 := by
          rw [show wrap64 ((l.length : Int) + 1) = (l.length : Int) + 1 by unfold wrap64; omega, Int.tdiv_eq_ediv_of_nonneg (by omega)]
          unfold wrap64; omega
        cases x with
        | true =>
          have hy : y = false := by simpa using hnb
          subst hy
          simp
        | false =>
          cases y with
          | true =>
            simp [hne]
          | false =>
            rw [if_neg (by simp), if_neg (by simp), hh, hq]
            have e0 : (((l.length : Int) + 1) / 2 == 0) = false := by simp; omega
            have e1 : ¬ ((l.length : Int) + 1) / 2 = 0 := by omega
            simp only [Option.bind_some, e0, if_neg e1, if_true, Bool.false_eq_true, if_false, beq_self_eq_true]
            split <;> rfl
end Go.Proofs.Ytnpfanmkjhpmlaa.Pure
