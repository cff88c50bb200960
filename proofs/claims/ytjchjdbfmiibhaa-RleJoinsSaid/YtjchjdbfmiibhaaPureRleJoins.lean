/-
  Runs of columns one behind the other are those of both, but that the last of the one and the first of the other are one, if they are of one value: for every input. (RleJoins)
-/
import Derived.Test.YtjchjdbfmiibhaaRlaF
import Derived.Test.YtjchjdbfmiibhaaPRlax9
namespace Go.Proofs.Ytjchjdbfmiibhaa.Pure
open Go.RowKit Go.Proofs.Ytjchjdbfmiibhaa.PRla Go.Proofs.YtjchjdbfmiibhaaW.PrintWords Go.Proofs.YtjchjdbfmiibhaaW.PrintLast Go.Proofs.YtjchjdbfmiibhaaW.PrintMore
open Go.Proofs.Ytjchjdbfmiibhaa.Hand

/-- The first run stays the first, with no smaller number. -/
theorem step_head (r : S49) (o : List S49) (v : S32) : ∃ r' o', step (r :: o) v = r' :: o' ∧ r'.f1 = r.f1 ∧ r.f0 ≤ r'.f0 := by
  rcases List.eq_nil_or_concat o with rfl | ⟨o, q, rfl⟩
  · have := step_snoc [] r v
    simp only [List.nil_append] at this
    rw [this]
    split
    · rename_i h; exact ⟨_, _, rfl, h.symm, by show r.f0 ≤ r.f0 + 1; omega⟩
    · exact ⟨r, _, rfl, rfl, Int.le_refl _⟩
  · have := step_snoc (r :: o) q v
    simp only [List.concat_eq_append]
    rw [← List.cons_append, this]
    split
    · exact ⟨r, _, rfl, rfl, Int.le_refl _⟩
    · exact ⟨r, _, rfl, rfl, Int.le_refl _⟩
theorem runs_head : ∀ (l : List S32) (r : S49) (o : List S49), ∃ r' o', runs (r :: o) l = r' :: o' ∧ r'.f1 = r.f1 ∧ r.f0 ≤ r'.f0
  | [], r, o => ⟨r, o, rfl, rfl, Int.le_refl _⟩
  | v :: t, r, o => by
    obtain ⟨r1, o1, e1, h1, h2⟩ := step_head r o v
    obtain ⟨r2, o2, e2, h3, h4⟩ := runs_head t r1 o1
    refine ⟨r2, o2, ?_, h3.trans h1, by omega⟩
    unfold runs at *
    rw [List.foldl_cons, e1, e2]
theorem runs_append (l m : List S32) : runs [] (l ++ m) = runs (runs [] l) m := by
  unfold runs
  rw [List.foldl_append]
theorem runs_lastV (l : List S32) (h : l ≠ []) : lastV (runs [] l) = l.getLast? := by
  rcases List.eq_nil_or_concat l with rfl | ⟨o, q, rfl⟩
  · exact absurd rfl h
  · simp only [List.concat_eq_append]
    unfold runs
    rw [List.foldl_append, List.foldl_cons, List.foldl_nil, step_last, List.getLast?_concat]
theorem chg_cons (u : S32) (v : S32) (t : List S32) : chg (some u) (v :: t) + (if u = v then 1 else 0) = chg none (v :: t) := by
  simp only [chg]
  by_cases h : u = v
  · rw [if_pos (by rw [h]), if_pos h, if_neg (by simp)]; omega
  · rw [if_neg (by simpa using h), if_neg h, if_neg (by simp)]; omega
theorem joins_len (l m : List S32) : (runs [] (l ++ m)).length + (match l.getLast?, m.head? with | some u, some v => if u = v then 1 else 0 | _, _ => 0) = (runs [] l).length + (runs [] m).length := by
  rw [runs_append, runs_len, runs_len m [], runs_len l []]
  cases l with
  | nil => simp [chg, runs, lastV]
  | cons x t =>
    rw [runs_lastV (x :: t) (by simp)]
    cases m with
    | nil => cases (x :: t).getLast? <;> simp [chg]
    | cons v s =>
      have hl : (x :: t).getLast? = some ((x :: t).getLast (by simp)) := List.getLast?_eq_some_getLast (by simp)
      rw [hl]
      have := chg_cons ((x :: t).getLast (by simp)) v s
      simp only [List.head?_cons]
      rw [show lastV ([] : List S49) = none from rfl, List.length_nil]
      omega
theorem joins_tail (l m : List S32) (hl : l.length ≤ 1000) (hm : m.length ≤ 1000) (k : Nat) (b : Bool) (hb : (if b = true then 1 else 0) = (match l.getLast?, m.head? with | some u, some v => if u = v then 1 else 0 | _, _ => 0 : Nat)) :
    law08_RleJoins.j1 (k + 1) l true (runs [] l) (runs [] (l ++ m)) (wrap64 (((runs [] l).length : Int) + ((runs [] m).length : Int))) b = some true := by
  have hj := joins_len l m
  rw [← hb] at hj
  have i1 := inv_runs l [] 0 inv_nil
  have i2 := inv_runs m [] 0 inv_nil
  have i3 := inv_runs (l ++ m) [] 0 inv_nil
  have l1 := i1.1
  have l2 := i2.1
  have hw : wrap64 (((runs [] l).length : Int) + ((runs [] m).length : Int)) = ((runs [] l).length : Int) + ((runs [] m).length : Int) := by unfold wrap64; omega
  have hhead : ((runs [] l).length : Int) ≠ 0 → 0 < ((runs [] (l ++ m)).length : Int) ∧ 0 < ((runs [] l).length : Int) ∧
      (((rd_T49 (runs [] (l ++ m)) 0).f1.f0) == ((rd_T49 (runs [] l) 0).f1.f0) && (((rd_T49 (runs [] (l ++ m)) 0).f1.f1) == ((rd_T49 (runs [] l) 0).f1.f1) && ((((rd_T49 (runs [] (l ++ m)) 0).f1.f2).toList) == (((rd_T49 (runs [] l) 0).f1.f2).toList)))) = true ∧
      decide (((rd_T49 (runs [] (l ++ m)) 0).f0) ≥ ((rd_T49 (runs [] l) 0).f0)) = true := by
    intro h0
    rw [runs_append]
    cases e : runs [] l with
    | nil => rw [e] at h0; exact absurd rfl h0
    | cons r o =>
      obtain ⟨r', o', e', g1, g2⟩ := runs_head m r o
      rw [e']
      refine ⟨by simp only [List.length_cons]; omega, by simp only [List.length_cons]; omega, ?_, ?_⟩
      · exact (veq _ _).2 g1
      · exact decide_eq_true g2
  simp only [law08_RleJoins.j1, hw]
  have hle : ¬ ((runs [] l).length : Int) > (l.length : Int) := by omega
  have fin : (if ((runs [] l).length : Int) > (l.length : Int) then some false else if (true : Bool) = true then (if ((runs [] l).length : Int) = 0 then some true else (if 0 < ((runs [] (l ++ m)).length : Int) then (if 0 < ((runs [] l).length : Int) then (if (((rd_T49 (runs [] (l ++ m)) 0).f1.f0) == ((rd_T49 (runs [] l) 0).f1.f0) && (((rd_T49 (runs [] (l ++ m)) 0).f1.f1) == ((rd_T49 (runs [] l) 0).f1.f1) && ((((rd_T49 (runs [] (l ++ m)) 0).f1.f2).toList) == (((rd_T49 (runs [] l) 0).f1.f2).toList)))) = true then (some (decide (((rd_T49 (runs [] (l ++ m)) 0).f0) ≥ ((rd_T49 (runs [] l) 0).f0)))) else (some false)) else (none)) else (none))) else (some false)) = some true := by
    rw [if_neg hle, if_pos rfl]
    by_cases h0 : ((runs [] l).length : Int) = 0
    · rw [if_pos h0]
    · obtain ⟨g1, g2, g3, g4⟩ := hhead h0
      rw [if_neg h0, if_pos g1, if_pos g2, if_pos g3, g4]
  cases b with
  | true =>
    rw [if_pos rfl, if_pos (by simp at hj; unfold wrap64; omega)]
    exact fin
  | false =>
    rw [if_neg (by simp), if_pos (by simp at hj; omega)]
    exact fin
theorem RleJoins : law08_RleJoins.Pure := by
  intro l m hl hm
  obtain ⟨hlen, hw⟩ := wf_all hl
  obtain ⟨mlen, mw⟩ := wf_all hm
  refine ⟨140737488351232 + 10000, ?_⟩
  generalize hK : 140737488351232 + 10000 = K
  obtain ⟨K, rfl⟩ : ∃ n, K = n + 2 := ⟨K - 2, by omega⟩
  unfold law08_RleJoins.f
  obtain ⟨b, e, hb⟩ := few_f l hlen hw (K + 2) (by omega)
  obtain ⟨b2, e2, hb2⟩ := few_f m mlen mw (K + 2) (by omega)
  rw [shown_f, e, e2]
  simp only [Option.bind_some, law08_RleJoins.j0]
  cases b with
  | false => rfl
  | true =>
    cases b2 with
    | false => rfl
    | true =>
      have l1 := hb rfl
      have m1 := hb2 rfl
      rw [if_pos rfl, if_neg (by simp), runs_f l (by omega) _ (by omega), runs_f m (by omega) _ (by omega)]
      simp only [Option.bind_some, List.nil_append]
      rw [if_pos (by simp; omega), if_pos (by omega), runs_f (l ++ m) (by simp; omega) _ (by simp; omega)]
      simp only [Option.bind_some]
      by_cases hl0 : (l.length : Int) > 0
      · rw [if_pos hl0]
        by_cases hm0 : (m.length : Int) > 0
        · have hwl : wrap64 ((l.length : Int) - 1) = ((l.length - 1 : Nat) : Int) := by unfold wrap64; omega
          rw [if_pos hm0, hwl, if_pos (by omega), if_pos (by omega), if_pos (by omega), rd_at l (l.length - 1) (by omega), show (0 : Int) = ((0 : Nat) : Int) from rfl, rd_at m 0 (by omega)]
          refine joins_tail l m l1 m1 K _ ?_
          have g1 : l.getLast? = some (l[l.length - 1]'(by omega)) := by
            rw [List.getLast?_eq_getElem?, List.getElem?_eq_getElem (by omega)]
          have g2 : m.head? = some (m[0]'(by omega)) := by
            cases m with
            | nil => simp at hm0
            | cons x t => rfl
          rw [g1, g2]
          simp only
          by_cases h : l[l.length - 1]'(by omega) = m[0]'(by omega)
          · rw [if_pos ((veq _ _).2 h), if_pos h]
          · rw [if_neg (fun q => h ((veq _ _).1 q)), if_neg h]
        · rw [if_neg hm0]
          refine joins_tail l m l1 m1 K _ ?_
          obtain rfl : m = [] := List.eq_nil_of_length_eq_zero (by omega)
          cases l.getLast? <;> simp
      · rw [if_neg hl0]
        refine joins_tail l m l1 m1 K _ ?_
        obtain rfl : l = [] := List.eq_nil_of_length_eq_zero (by omega)
        simp
end Go.Proofs.Ytjchjdbfmiibhaa.Pure
