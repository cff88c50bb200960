/-
  Groups, in plain words: for each first values, in order of coming, the rows that have them.
-/
import Derived.Test.YtedgfhijkkedaaaGrG
namespace Go.Proofs.Ytedgfhijkkedaaa.PAgg
open Go.RowKit
set_option linter.unusedVariables false
set_option linter.unusedSimpArgs false

theorem eqV_iff (a b : S39) : eqV a b = true ↔ a = b := by
  unfold eqV
  simp only [Bool.and_eq_true, beq_iff_eq]
  constructor
  · rintro ⟨h1, h2, h3⟩
    rw [ByteArray.toList_eq, ByteArray.toList_eq] at h3
    cases a with | mk a0 a1 a2 => cases b with | mk b0 b1 b2 =>
    cases a2; cases b2
    simp_all
  · rintro rfl; exact ⟨rfl, rfl, rfl⟩
instance decV (a b : S39) : Decidable (a = b) := decidable_of_iff _ (eqV_iff a b)
theorem eqRow_iff : ∀ a b : List S39, eqRow a b = true ↔ a = b
  | [], [] => by simp [eqRow]
  | [], _ :: _ => by simp [eqRow]
  | _ :: _, [] => by simp [eqRow]
  | x :: a, y :: b => by
    unfold eqRow
    rw [Bool.and_eq_true, eqV_iff, eqRow_iff a b]
    simp

/-! ## The first ones of each kind -/
section
variable {α : Type} [DecidableEq α]
def firsts (l : List α) : List α := l.foldl (fun acc c => if c ∈ acc then acc else acc ++ [c]) []
theorem firsts_snoc (l : List α) (c : α) : firsts (l ++ [c]) = if c ∈ firsts l then firsts l else firsts l ++ [c] := by
  unfold firsts; rw [List.foldl_append]; rfl
omit [DecidableEq α] in
theorem snoc_ind {P : List α → Prop} (h0 : P []) (h1 : ∀ l c, P l → P (l ++ [c])) (l : List α) : P l := by
  rw [← List.reverse_reverse l]
  induction l.reverse with
  | nil => exact h0
  | cons c t ih => rw [List.reverse_cons]; exact h1 _ _ ih
theorem mem_firsts (l : List α) (c : α) : c ∈ firsts l ↔ c ∈ l := by
  induction l using snoc_ind with
  | h0 => simp [firsts]
  | h1 l d ih =>
    rw [firsts_snoc]
    by_cases h : d ∈ firsts l
    · rw [if_pos h, ih, List.mem_append, List.mem_singleton]
      constructor
      · exact .inl
      · rintro (h2 | rfl)
        · exact h2
        · exact ih.1 h
    · rw [if_neg h, List.mem_append, List.mem_append, ih]
theorem nodup_firsts (l : List α) : (firsts l).Nodup := by
  induction l using snoc_ind with
  | h0 => simp [firsts]
  | h1 l d ih =>
    rw [firsts_snoc]
    by_cases h : d ∈ firsts l
    · rw [if_pos h]; exact ih
    · rw [if_neg h]
      refine List.nodup_append.2 ⟨ih, by simp, fun a ha b hb e => ?_⟩
      rw [List.mem_singleton] at hb
      subst hb; subst e
      exact h ha
end

/-- A row's first values. -/
def keyN (n : Nat) (r : List S39) : List S39 := r.take n
def grp (n : Nat) (l : List (List S39)) (c : List S39) : List (List S39) := l.filter fun r => decide (keyN n r = c)
theorem put_map (n : Nat) (r : List S39) (F : List S39 → List (List S39)) : ∀ cs : List (List S39), cs.Nodup → (∀ c ∈ cs, keyN n (rd_L3 (F c) 0) = c) →
    putRow n r (cs.map F) = if keyN n r ∈ cs then cs.map (fun c => if keyN n r = c then F c ++ [r] else F c) else cs.map F ++ [[r]]
  | [], _, _ => by simp [putRow]
  | c :: cs, hn, hk => by
    have hc := hk c (List.mem_cons_self ..)
    obtain ⟨hni, hn2⟩ := List.nodup_cons.1 hn
    rw [List.map_cons]
    unfold putRow
    have hl : like n r (F c) = true ↔ keyN n r = c := by
      unfold like
      rw [eqRow_iff]
      unfold keyN at hc ⊢
      rw [hc]
      exact eq_comm
    by_cases h : keyN n r = c
    · rw [if_pos (hl.2 h), if_pos (by rw [h]; exact List.mem_cons_self ..), List.map_cons, if_pos h]
      congr 1
      refine List.map_congr_left (fun d hd => ?_)
      rw [if_neg (fun e => hni (by rw [← h, e]; exact hd))]
    · rw [if_neg (fun e => h (hl.1 e)), put_map n r F cs hn2 (fun d hd => hk d (List.mem_cons_of_mem _ hd))]
      by_cases h2 : keyN n r ∈ cs
      · rw [if_pos h2, if_pos (List.mem_cons_of_mem _ h2), List.map_cons, if_neg h]
      · rw [if_neg h2, if_neg (by rw [List.mem_cons]; rintro (e | e) <;> contradiction)]
        rfl
theorem grp_head (n : Nat) (l : List (List S39)) (c : List S39) (h : c ∈ l.map (keyN n)) : 0 < (grp n l c).length ∧ keyN n (rd_L3 (grp n l c) 0) = c := by
  obtain ⟨r, hr, rfl⟩ := List.mem_map.1 h
  have hm : r ∈ grp n l (keyN n r) := List.mem_filter.2 ⟨hr, by simp⟩
  obtain ⟨x, t, e⟩ : ∃ x t, grp n l (keyN n r) = x :: t := by
    cases hg : grp n l (keyN n r) with
    | nil => rw [hg] at hm; cases hm
    | cons x t => exact ⟨x, t, rfl⟩
  have hx : x ∈ grp n l (keyN n r) := by rw [e]; exact List.mem_cons_self ..
  have h2 := (List.mem_filter.1 hx).2
  rw [decide_eq_true_eq] at h2
  refine ⟨by rw [e]; simp, ?_⟩
  rw [e]
  exact h2
theorem groups_eq (n : Nat) (l : List (List S39)) : groupsOf n l = (firsts (l.map (keyN n))).map (grp n l) := by
  induction l using snoc_ind with
  | h0 => rfl
  | h1 l r ih =>
    rw [groupsOf_snoc, ih, put_map n r (grp n l) _ (nodup_firsts _) (fun c hc => (grp_head n l c ((mem_firsts _ _).1 hc)).2), List.map_append, List.map_singleton, firsts_snoc]
    have hg : ∀ c, grp n (l ++ [r]) c = if keyN n r = c then grp n l c ++ [r] else grp n l c := by
      intro c
      unfold grp
      rw [List.filter_append]
      by_cases e : keyN n r = c
      · rw [if_pos e]; simp [e]
      · rw [if_neg e]; simp [e]
    by_cases h : keyN n r ∈ firsts (l.map (keyN n))
    · rw [if_pos h, if_pos h]
      exact List.map_congr_left (fun c _ => (hg c).symm)
    · rw [if_neg h, if_neg h, List.map_append, List.map_singleton]
      have h0 : grp n l (keyN n r) = [] := by
        unfold grp
        rw [List.filter_eq_nil_iff]
        intro x hx e
        rw [decide_eq_true_eq] at e
        exact h ((mem_firsts _ _).2 (List.mem_map.2 ⟨x, hx, e⟩))
      rw [show grp n (l ++ [r]) (keyN n r) = [r] by rw [hg, if_pos rfl, h0]; rfl]
      congr 1
      refine List.map_congr_left (fun c hc => ?_)
      rw [hg, if_neg (fun e => h (by rw [e]; exact hc))]
/-- All groups' rows together. -/
theorem put_sum (n : Nat) (r : List S39) : ∀ gs : List (List (List S39)), ((putRow n r gs).map List.length).sum = (gs.map List.length).sum + 1
  | [] => rfl
  | g :: t => by
    unfold putRow
    split
    · simp; omega
    · have := put_sum n r t
      simp only [List.map_cons, List.sum_cons]
      omega
theorem groups_sum (n : Nat) (l : List (List S39)) : ((groupsOf n l).map List.length).sum = l.length := by
  induction l using snoc_ind with
  | h0 => rfl
  | h1 l r ih => rw [groupsOf_snoc, put_sum, ih]; simp

/-! ## What rows make -/
theorem row_gen (k : Nat) (g : List (List S39)) (G : S36 → S39) : ∀ (l : List S36) (acc : List S39), (∀ a ∈ l, oneF k g a.f0 a.f1 = some (G a, 0)) → aggRow k g l acc = some (acc ++ l.map G, 0)
  | [], acc, _ => by simp [aggRow]
  | a :: t, acc, h => by
    unfold aggRow
    rw [h a (List.mem_cons_self ..), Option.bind_some, if_pos rfl, row_gen k g G t _ (fun b hb => h b (List.mem_cons_of_mem _ hb))]
    simp
theorem all_gen (k : Nat) (n : Int) (l : List S36) (G : List (List S39) → List S39) : ∀ (gs : List (List (List S39))) (acc : List (List S39)), (∀ g ∈ gs, aggRow k g l (headOf n g) = some (G g, 0)) → aggAll k n l gs acc = some (acc ++ gs.map G, 0)
  | [], acc, _ => by simp [aggAll]
  | g :: t, acc, h => by
    unfold aggAll
    rw [h g (List.mem_cons_self ..), Option.bind_some, if_pos rfl, all_gen k n l G t _ (fun b hb => h b (List.mem_cons_of_mem _ hb))]
    simp
theorem shown_true : law20_shown.f = some true := by decide +kernel
end Go.Proofs.Ytedgfhijkkedaaa.PAgg
