/-
  The document's runs of values are the program's (key Rlz).
-/
import Derived.Test.YtjchjdbfmiibhaaRlzB
namespace Go.Proofs.Ytjchjdbfmiibhaa.PureB
open Go.RowKit Go.Proofs.Ytjchjdbfmiibhaa.PRlz Go.Proofs.YtjchjdbfmiibhaaW.PrintWords Go.Proofs.YtjchjdbfmiibhaaW.PrintLast Go.Proofs.YtjchjdbfmiibhaaW.PrintMore
open Go.Proofs.Ytjchjdbfmiibhaa.Hand

def t75 (r : S49) : S75 := ⟨r.f0, r.f1⟩
theorem run_from (l : List S32) (i j : Nat) (hij : i < j) (hj : j ≤ l.length) (hall : ∀ t (ht : t < l.length), i ≤ t → t < j → l[t] = l[i]'(by omega)) (hb : lastV (runs [] (l.take i)) ≠ some (l[i]'(by omega))) :
    runs [] (l.take j) = runs [] (l.take i) ++ [⟨((j - i : Nat) : Int), l[i]'(by omega)⟩] := by
  have e : l.take j = l.take i ++ List.replicate (j - i) (l[i]'(by omega)) := by
    apply List.ext_getElem
    · simp; omega
    · intro t h1 h2
      rw [List.length_take] at h1
      rw [List.getElem_take]
      by_cases ht : t < i
      · rw [List.getElem_append_left (by rw [List.length_take]; omega), List.getElem_take]
      · rw [List.getElem_append_right (by rw [List.length_take]; omega), List.getElem_replicate]
        exact hall t (by omega) (by omega) (by omega)
  rw [e, runs_app]
  obtain ⟨m, hm⟩ : ∃ m, j - i = m + 1 := ⟨j - i - 1, by omega⟩
  rw [hm, List.replicate_succ]
  show runs (step (runs [] (l.take i)) (l[i]'(by omega))) (List.replicate m _) = _
  rw [step_new _ _ hb, runs_rep, show (1 : Int) + (m : Int) = ((m + 1 : Nat) : Int) by omega]
theorem w64 {n : Int} (h0 : 0 ≤ n) (h1 : n < 9223372036854775808) : wrap64 n = n := by unfold wrap64; omega
theorem runs_le (l : List S32) (i : Nat) (h : i ≤ l.length) : (runs [] (l.take i)).length ≤ i := by
  have := (inv_runs (l.take i) [] 0 inv_nil).1
  rw [List.length_take] at this
  omega
theorem refRuns_l1 (l : List S32) (hl : l.length ≤ 1000000) : ∀ (e i j k : Nat) (hi : i < l.length), j + e = l.length → i < j → (∀ t (ht : t < l.length), i ≤ t → t < j → l[t] = l[i]) → lastV (runs [] (l.take i)) ≠ some l[i] → 3 * e + 2 < k →
    ref08_Runs.l1 k l ((runs [] (l.take i)).map t75) (i : Int) (j : Int) = some ((runs [] l).map t75) := by
  intro e
  induction e with
  | zero =>
    intro i j k hi hj hij hall hb hk
    obtain ⟨k, rfl⟩ : ∃ q, k = q + 2 := ⟨k - 2, by omega⟩
    obtain rfl : j = l.length := by omega
    have hr := run_from l i l.length hij (Nat.le_refl _) hall hb
    have hle := runs_le l i (by omega)
    rw [ref08_Runs.l1, if_neg (by omega), if_pos (by omega), if_pos (by omega), if_pos (by rw [List.length_map]; omega), rd_at l i hi, w64 (by omega) (by omega), ref08_Runs.l0, if_neg (by omega)]
    rw [List.take_length] at hr
    rw [hr, List.map_append]
    congr 2
    simp only [List.map_cons, List.map_nil, t75]
    congr 2
    omega
  | succ e ih =>
    intro i j k hi hj hij hall hb hk
    obtain ⟨k, rfl⟩ : ∃ q, k = q + 3 := ⟨k - 3, by omega⟩
    have hjl : j < l.length := by omega
    have hle := runs_le l i (by omega)
    rw [ref08_Runs.l1, if_pos (by omega), if_pos (by omega), if_pos (by omega), if_pos (by omega), rd_at l i hi, rd_at l j hjl]
    by_cases c : l[j] = l[i]
    · rw [if_pos ((veq _ _).2 c), w64 (by omega) (by omega), show ((j : Int) + 1) = ((j + 1 : Nat) : Int) by omega]
      exact ih i (j + 1) _ hi (by omega) (by omega) (fun t ht h1 h2 => if q : t = j then by subst q; exact c else hall t ht h1 (by omega)) hb (by omega)
    · have hr := run_from l i j hij (by omega) hall hb
      rw [if_neg (fun q => c ((veq _ _).1 q)), if_pos (by rw [List.length_map]; omega), w64 (by omega) (by omega)]
      have ha : (runs [] (l.take i)).map t75 ++ [(⟨(j : Int) - (i : Int), (⟨l[i].f0, l[i].f1, l[i].f2⟩ : S32)⟩ : S75)] = (runs [] (l.take j)).map t75 := by
        rw [hr, List.map_append]
        simp only [List.map_cons, List.map_nil, t75]
        congr 3
        omega
      rw [ha, ref08_Runs.l0, if_pos (by omega), ref08_Runs.l1, if_pos (by omega), if_pos (by omega), if_pos (by omega), if_pos (by omega), if_pos ((veq _ _).2 rfl), w64 (by omega) (by omega), show ((j : Int) + 1) = ((j + 1 : Nat) : Int) by omega]
      exact ih j (j + 1) _ hjl (by omega) (by omega) (fun t ht h1 h2 => by rcases (show t = j by omega) with rfl; rfl) (by rw [hr, lastV_snoc]; exact fun q => c (Option.some.inj q).symm) (by omega)
theorem refRuns_f (l : List S32) (hl : l.length ≤ 1000000) (k : Nat) (hk : 3 * l.length + 5 < k) : ref08_Runs.f k l = some ((runs [] l).map t75) := by
  obtain ⟨k, rfl⟩ : ∃ q, k = q + 2 := ⟨k - 2, by omega⟩
  unfold ref08_Runs.f
  cases l with
  | nil => rw [ref08_Runs.l0, if_neg (by simp)]; rfl
  | cons v t =>
    rw [ref08_Runs.l0, if_pos (by simp only [List.length_cons]; omega), ref08_Runs.l1, if_pos (by simp only [List.length_cons]; omega), if_pos (by omega), if_pos (by omega), if_pos (by simp only [List.length_cons]; omega), if_pos ((veq _ _).2 rfl), w64 (by omega) (by omega)]
    have := refRuns_l1 (v :: t) hl t.length 0 1 k (by simp) (by simp only [List.length_cons]; omega) (by omega) (fun q hq h1 h2 => by rcases (show q = 0 by omega) with rfl; rfl) (by simp [lastV, runs]) (by simp only [List.length_cons] at hk; omega)
    exact this
end Go.Proofs.Ytjchjdbfmiibhaa.PureB
