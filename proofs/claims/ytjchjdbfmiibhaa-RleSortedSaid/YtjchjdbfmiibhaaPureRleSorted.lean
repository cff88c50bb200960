/-
  A column in order has as many runs as unlike values: for every input. (RleSorted)
-/
import Derived.Test.YtjchjdbfmiibhaaRlsA
namespace Go.Proofs.Ytjchjdbfmiibhaa.PureB
open Go.RowKit Go.Proofs.Ytjchjdbfmiibhaa.PRls Go.Proofs.YtjchjdbfmiibhaaW.PrintWords Go.Proofs.YtjchjdbfmiibhaaW.PrintLast Go.Proofs.YtjchjdbfmiibhaaW.PrintMore
open Go.Proofs.Ytjchjdbfmiibhaa.Hand

def V (n : Int) : S32 := ⟨1, n, ⟨#[]⟩⟩
def lt_ (n : Nat) (t : List Int) : Nat := t.countP fun x => decide (x < (n : Int))
def eq_ (n : Nat) (t : List Int) : Nat := t.countP fun x => decide (x = (n : Int))
theorem lt_succ (n : Nat) : ∀ t, lt_ (n + 1) t = lt_ n t + eq_ n t
  | [] => rfl
  | x :: t => by
    have ih := lt_succ n t
    unfold lt_ eq_ at *
    rw [List.countP_cons, List.countP_cons, List.countP_cons, ih]
    have h1 : decide (x < ((n + 1 : Nat) : Int)) = (decide (x < (n : Int)) || decide (x = (n : Int))) := by
      rw [Bool.eq_iff_iff, Bool.or_eq_true, decide_eq_true_iff, decide_eq_true_iff, decide_eq_true_iff]; omega
    rw [h1]
    by_cases a : x < (n : Int)
    · have b : ¬ x = (n : Int) := by omega
      simp [a, b]; omega
    · by_cases b : x = (n : Int)
      · simp [b]; omega
      · simp [a, b]
theorem lt_le (n : Nat) (t : List Int) : lt_ n t ≤ t.length := List.countP_le_length
theorem eq_le (n : Nat) (t : List Int) : eq_ n t ≤ t.length := List.countP_le_length
theorem eq_take (n : Nat) (t : List Int) (i : Nat) (hi : i < t.length) : eq_ n (t.take (i + 1)) = eq_ n (t.take i) + if t[i] = (n : Int) then 1 else 0 := by
  unfold eq_
  rw [← List.take_append_getElem hi, List.countP_append]
  simp only [List.countP_cons, List.countP_nil, Nat.zero_add, decide_eq_true_iff]
theorem chg_snoc (acc : List S32) (v : S32) : chg none (acc ++ [v]) = chg none acc + if acc.getLast? = some v then 0 else 1 := by
  rw [chg_append]
  simp only [chg, Option.or_none, Nat.add_zero]
/-- Ahead of number n. -/
def Good (t : List Int) (n : Nat) (acc : List S32) (many : Nat) : Prop := acc.length = lt_ n t ∧ many = chg none acc ∧ ∀ u ∈ acc, u.f1 < n
def At (t : List Int) (n i : Nat) (acc : List S32) (many : Nat) (is : Bool) : Prop := acc.length = lt_ n t + eq_ n (t.take i) ∧
  (is = false → many = chg none acc ∧ ∀ u ∈ acc, u.f1 < n) ∧ (is = true → many + 1 = chg none acc ∧ acc.getLast? = some (V n) ∧ ∀ u ∈ acc, u.f1 < (n : Int) + 1)
theorem at_start {t : List Int} {n many : Nat} {acc : List S32} (h : Good t n acc many) : At t n 0 acc many false :=
  ⟨by rw [h.1]; simp [eq_], ⟨fun _ => h.2, fun h => (nomatch h)⟩⟩
theorem at_take {t : List Int} {n i many : Nat} {acc : List S32} {is : Bool} (h : At t n i acc many is) (hi : i < t.length) (he : t[i] = (n : Int)) : At t n (i + 1) (acc ++ [V n]) many true := by
  obtain ⟨h1, h2, h3⟩ := h
  refine ⟨?_, ⟨fun h => (nomatch h), fun _ => ⟨?_, List.getLast?_concat, ?_⟩⟩⟩
  · rw [List.length_append, List.length_singleton, h1, eq_take n t i hi, if_pos he]; omega
  · rw [chg_snoc]
    cases is with
    | false =>
      obtain ⟨a, b⟩ := h2 rfl
      rw [if_neg, a]
      intro q
      have := b _ (List.mem_of_getLast? q)
      exact absurd this (by show ¬ (n : Int) < n; omega)
    | true =>
      obtain ⟨a, b, -⟩ := h3 rfl
      rw [if_pos b, a, Nat.add_zero]
  · intro u hu
    rcases List.mem_append.1 hu with hu | hu
    · cases is with
      | false => have := (h2 rfl).2 u hu; omega
      | true => exact (h3 rfl).2.2 u hu
    · rw [List.mem_singleton.1 hu]
      show (n : Int) < n + 1
      omega
theorem at_pass {t : List Int} {n i many : Nat} {acc : List S32} {is : Bool} (h : At t n i acc many is) (hi : i < t.length) (he : ¬ t[i] = (n : Int)) : At t n (i + 1) acc many is :=
  ⟨by rw [h.1, eq_take n t i hi, if_neg he]; rfl, h.2⟩
theorem at_end {t : List Int} {n many : Nat} {acc : List S32} {is : Bool} (h : At t n t.length acc many is) : Good t (n + 1) acc (if is = true then many + 1 else many) := by
  obtain ⟨h1, h2, h3⟩ := h
  rw [List.take_length] at h1
  refine ⟨by rw [h1, lt_succ], ?_, ?_⟩
  · cases is with
    | false => exact (h2 rfl).1
    | true => exact (h3 rfl).1
  · intro u hu
    cases is with
    | false => have := (h2 rfl).2 u hu; omega
    | true => have := (h3 rfl).2.2 u hu; omega
theorem wsucc (i : Nat) (h : i ≤ 1000000) : wrap64 ((i : Int) + 1) = ((i + 1 : Nat) : Int) := by unfold wrap64; omega
theorem w8 (x : Int) (h : 0 ≤ x ∧ x < 256) : wrap64 x = x := by unfold wrap64; omega
theorem at_many {t : List Int} {n i many : Nat} {acc : List S32} {is : Bool} (h : At t n i acc many is) : many ≤ 2 * t.length := by
  have hc := chg_le acc none
  have h1 := lt_le n t
  have h2 := eq_le n (t.take i)
  rw [List.length_take] at h2
  have h3 := h.1
  cases is with
  | false => have := (h.2.1 rfl).1; omega
  | true => have := (h.2.2 rfl).1; omega
theorem rs_l1 (nums : List Int) (hB : ∀ x ∈ nums, 0 ≤ x ∧ x < 256) (n B : Nat) (hn : n < 256)
    (hnext : ∀ k acc (many : Nat), B ≤ k → Good (nums.take 300) (n + 1) acc many → law08_RleSorted.l0 k nums true acc (many : Int) ((n + 1 : Nat) : Int) = some true) :
    ∀ (j k i : Nat) (acc : List S32) (many : Nat) (is : Bool), i + j = (nums.take 300).length → B + 2 * j + 2 ≤ k → At (nums.take 300) n i acc many is → law08_RleSorted.l1 k nums true acc (many : Int) (n : Int) is (i : Int) = some true := by
  have ht : (nums.take 300).length = min 300 nums.length := List.length_take
  intro j
  induction j with
  | zero =>
    intro k i acc many is hi hk hA
    obtain ⟨k, rfl⟩ : ∃ m, k = m + 2 := ⟨k - 2, by omega⟩
    have hm := at_many hA
    obtain rfl : i = (nums.take 300).length := by omega
    have hG := at_end hA
    have fin : law08_RleSorted.j2 (k + 1) nums true acc (many : Int) (n : Int) is ((nums.take 300).length : Int) false = some true := by
      rw [law08_RleSorted.j2, if_neg (by simp), wsucc n (by omega)]
      cases is with
      | false =>
        rw [if_neg (by simp)]
        exact hnext k acc many (by omega) hG
      | true =>
        rw [if_pos rfl, wsucc many (by omega)]
        exact hnext k acc (many + 1) (by omega) hG
    rw [law08_RleSorted.l1]
    by_cases hc : ((nums.take 300).length : Int) < (nums.length : Int)
    · rw [if_pos hc, decide_eq_false (by omega)]
      exact fin
    · rw [if_neg hc]
      exact fin
  | succ j ih =>
    intro k i acc many is hi hk hA
    obtain ⟨k, rfl⟩ : ∃ m, k = m + 2 := ⟨k - 2, by omega⟩
    have hil : i < (nums.take 300).length := by omega
    have hin : i < nums.length := by omega
    have hget : (nums.take 300)[i] = nums[i] := List.getElem_take
    have hr : rd nums (i : Int) = nums[i] := by simp [rd, List.getD_eq_getElem?_getD, hin]
    have hb := hB nums[i] (List.getElem_mem hin)
    have hl1 := lt_le n (nums.take 300)
    have hl2 := eq_le n ((nums.take 300).take i)
    rw [List.length_take] at hl2
    have hal := hA.1
    have c1 : (i : Int) < (nums.length : Int) := by omega
    have c2 : (i : Int) < 300 := by omega
    have c3 : (0 : Int) ≤ (i : Int) := by omega
    have c4 : acc.length < 4398046511104 := by omega
    have c5 : B + 2 * j + 2 ≤ k := by omega
    have c6 : i + 1 + j = (nums.take 300).length := by omega
    rw [law08_RleSorted.l1, if_pos c1, decide_eq_true c2, law08_RleSorted.j2, if_pos rfl, if_pos c3, if_pos c1, hr, w8 nums[i] hb, wsucc i (by omega)]
    by_cases he : nums[i] = (n : Int)
    · rw [if_pos he, if_pos c4]
      exact ih k (i + 1) (acc ++ [V n]) many true c6 c5 (at_take hA hil (by rw [hget]; exact he))
    · rw [if_neg he]
      exact ih k (i + 1) acc many is c6 c5 (at_pass hA hil (by rw [hget]; exact he))
theorem rs_l0 (nums : List Int) (hB : ∀ x ∈ nums, 0 ≤ x ∧ x < 256) : ∀ (j n k : Nat) (acc : List S32) (many : Nat), n + j = 256 → 700 * j + 1000 ≤ k → Good (nums.take 300) n acc many → law08_RleSorted.l0 k nums true acc (many : Int) (n : Int) = some true := by
  have ht : (nums.take 300).length = min 300 nums.length := List.length_take
  intro j
  induction j with
  | zero =>
    intro n k acc many hn hk hG
    obtain ⟨k, rfl⟩ : ∃ m, k = m + 1 := ⟨k - 1, by omega⟩
    obtain ⟨h1, h2, -⟩ := hG
    have hl := lt_le n (nums.take 300)
    have hrl := runs_len acc []
    rw [show lastV ([] : List S49) = none from rfl, ← h2, List.length_nil, Nat.zero_add] at hrl
    rw [law08_RleSorted.l0, if_neg (by omega), if_pos rfl, runs_f acc (by omega) k (by omega)]
    simp only [Option.bind_some]
    rw [if_pos (by omega), spread_runs acc (by omega) k (by omega)]
    simp only [Option.bind_some]
    rw [same_f acc (by omega) k (by omega)]
    rfl
  | succ j ih =>
    intro n k acc many hn hk hG
    obtain ⟨k, rfl⟩ : ∃ m, k = m + 1 := ⟨k - 1, by omega⟩
    rw [law08_RleSorted.l0, if_pos (by omega), show (0 : Int) = ((0 : Nat) : Int) from rfl]
    refine rs_l1 nums hB n (700 * j + 1000) (by omega) ?_ (nums.take 300).length k 0 acc many false (by omega) (by omega) (at_start hG)
    intro k2 acc2 many2 hk2 hG2
    exact ih (n + 1) k2 acc2 many2 (by omega) hk2 hG2
end Go.Proofs.Ytjchjdbfmiibhaa.PureB
namespace Go.Proofs.Ytjchjdbfmiibhaa.Pure
open Go.RowKit Go.Proofs.Ytjchjdbfmiibhaa.PRls Go.Proofs.YtjchjdbfmiibhaaW.PrintWords Go.Proofs.YtjchjdbfmiibhaaW.PrintLast Go.Proofs.YtjchjdbfmiibhaaW.PrintMore Go.Proofs.Ytjchjdbfmiibhaa.Hand Go.Proofs.Ytjchjdbfmiibhaa.PureB
theorem RleSorted : law08_RleSorted.Pure := by
  intro nums h1 h2 h3
  obtain ⟨K, hK⟩ : ∃ K : Nat, 700 * 256 + 1000 ≤ K := ⟨_, Nat.le_refl _⟩
  refine ⟨K, ?_⟩
  unfold law08_RleSorted.f
  rw [show law08_shown.f = some true from rfl]
  simp only [Option.bind_some]
  exact PureB.rs_l0 nums (fun x hx => wf_u8_ (h3 x hx)) 256 0 K [] 0 rfl hK ⟨by symm; exact List.countP_eq_zero.2 (by intro x hx; have := wf_u8_ (h3 x (List.mem_of_mem_take hx)); simp; omega), rfl, by simp⟩
end Go.Proofs.Ytjchjdbfmiibhaa.Pure
