/-
  Runs of values, plainly, and runs spread (key Rls).
-/
import Derived.Test.YtjchjdbfmiibhaaPRlsx10
import Derived.Test.YtjchjdbfmiibhaaLebN
namespace Go.Proofs.Ytjchjdbfmiibhaa.PureB
open Go.RowKit Go.Proofs.Ytjchjdbfmiibhaa.PRls Go.Proofs.YtjchjdbfmiibhaaW.PrintWords Go.Proofs.YtjchjdbfmiibhaaW.PrintLast Go.Proofs.YtjchjdbfmiibhaaW.PrintMore
open Go.Proofs.Ytjchjdbfmiibhaa.Hand

theorem rd_at (l : List S32) (i : Nat) (h : i < l.length) : rd_T32 l (i : Int) = l[i] := by
  unfold rd_T32
  rw [List.getD_eq_getElem?_getD, Int.toNat_natCast, List.getElem?_eq_getElem h]; rfl
theorem veq (a b : S32) : (a.f0 == b.f0 && (a.f1 == b.f1 && (a.f2.toList == b.f2.toList))) = true ↔ a = b := by
  simp only [Bool.and_eq_true, beq_iff_eq]
  constructor
  · rintro ⟨h1, h2, h3⟩
    rw [ByteArray.toList_eq, ByteArray.toList_eq] at h3
    cases a with | mk a0 a1 a2 => cases b with | mk b0 b1 b2 =>
    cases a2; cases b2
    simp_all
  · rintro rfl; exact ⟨rfl, rfl, rfl⟩
instance (a b : S32) : Decidable (a = b) := decidable_of_iff _ (veq a b)
/-- The last run's value. -/
def lastV (out : List S49) : Option S32 := out.getLast?.map S49.f1
/-- One value more. -/
def step (out : List S49) (v : S32) : List S49 :=
  match out.getLast? with
  | some r => if r.f1 = v then out.dropLast ++ [⟨r.f0 + 1, v⟩] else out ++ [⟨1, v⟩]
  | none => [⟨1, v⟩]
def runs (out : List S49) (l : List S32) : List S49 := l.foldl step out
def chg : Option S32 → List S32 → Nat
  | _, [] => 0
  | u, v :: t => (if u = some v then 0 else 1) + chg (some v) t
theorem step_last (out : List S49) (v : S32) : lastV (step out v) = some v := by
  unfold step lastV
  cases h : out.getLast? with
  | none => rfl
  | some r =>
    simp only
    split <;> simp
theorem step_snoc (out : List S49) (r : S49) (v : S32) : step (out ++ [r]) v = if r.f1 = v then out ++ [⟨r.f0 + 1, v⟩] else out ++ [r] ++ [⟨1, v⟩] := by
  unfold step
  rw [List.getLast?_concat]
  simp only [List.dropLast_concat]
theorem step_nil (v : S32) : step [] v = [⟨1, v⟩] := rfl
theorem step_len (out : List S49) (v : S32) : (step out v).length = out.length + if lastV out = some v then 0 else 1 := by
  rcases List.eq_nil_or_concat out with rfl | ⟨o, r, rfl⟩
  · rfl
  · simp only [List.concat_eq_append]
    rw [step_snoc]
    have e : lastV (o ++ [r]) = some r.f1 := by unfold lastV; rw [List.getLast?_concat]; rfl
    rw [e]
    by_cases h : r.f1 = v
    · rw [if_pos h, if_pos (by rw [h])]; simp
    · rw [if_neg h, if_neg (by simpa using h)]; simp
theorem runs_len : ∀ (l : List S32) (out : List S49), (runs out l).length = out.length + chg (lastV out) l
  | [], out => rfl
  | v :: t, out => by
    have ih := runs_len t (step out v)
    unfold runs at *
    rw [List.foldl_cons, ih, step_last, step_len]
    simp only [chg]
    omega
theorem chg_le : ∀ (l : List S32) (u : Option S32), chg u l ≤ l.length
  | [], _ => by simp [chg]
  | v :: t, u => by
    have := chg_le t (some v)
    simp only [chg, List.length_cons]
    split <;> omega
theorem chg_append : ∀ (l m : List S32) (u : Option S32), chg u (l ++ m) = chg u l + chg (l.getLast?.or u) m
  | [], m, u => by simp [chg]
  | v :: t, m, u => by
    have := chg_append t m (some v)
    simp only [List.cons_append, chg, this]
    have e : (v :: t).getLast?.or u = t.getLast?.or (some v) := by
      rw [List.getLast?_cons]
      cases t.getLast? <;> rfl
    rw [e]; omega
/-- What stands in runs: each one's number is within. -/
def Inv (out : List S49) (i : Nat) : Prop := out.length ≤ i ∧ ∀ r ∈ out, 1 ≤ r.f0 ∧ r.f0 ≤ i
theorem inv_nil : Inv [] 0 := ⟨by simp, by simp⟩
theorem inv_step {out : List S49} {i : Nat} (h : Inv out i) (v : S32) : Inv (step out v) (i + 1) := by
  obtain ⟨h1, h2⟩ := h
  have hl := step_len out v
  refine ⟨by split at hl <;> omega, ?_⟩
  rcases List.eq_nil_or_concat out with rfl | ⟨o, r, rfl⟩
  · intro r hr
    rw [step_nil, List.mem_singleton] at hr
    subst hr
    exact ⟨by show (1 : Int) ≤ 1; omega, by show (1 : Int) ≤ _; omega⟩
  · simp only [List.concat_eq_append] at *
    rw [step_snoc]
    have hr0 := h2 r (by simp)
    split
    · intro x hx
      rcases List.mem_append.1 hx with hx | hx
      · have := h2 x (List.mem_append_left _ hx)
        omega
      · rw [List.mem_singleton.1 hx]
        exact ⟨by show 1 ≤ r.f0 + 1; omega, by show r.f0 + 1 ≤ _; omega⟩
    · intro x hx
      rcases List.mem_append.1 hx with hx | hx
      · have := h2 x hx
        omega
      · rw [List.mem_singleton.1 hx]
        exact ⟨by show (1 : Int) ≤ 1; omega, by show (1 : Int) ≤ _; omega⟩
theorem inv_runs : ∀ (l : List S32) (out : List S49) (i : Nat), Inv out i → Inv (runs out l) (i + l.length)
  | [], _, _, h => h
  | v :: t, out, i, h => by
    have := inv_runs t _ _ (inv_step h v)
    unfold runs at *
    rw [List.foldl_cons, List.length_cons]
    rw [show i + (t.length + 1) = i + 1 + t.length by omega]
    exact this
theorem rd49_at (l : List S49) (i : Nat) (h : i < l.length) : rd_T49 l (i : Int) = l[i] := by
  unfold rd_T49
  rw [List.getD_eq_getElem?_getD, Int.toNat_natCast, List.getElem?_eq_getElem h]; rfl
theorem last_f (out : List S49) (hl : out.length ≤ 1000000) : rle_Run.f out = some (match out.getLast? with | some r => (r.f0, r.f1.f0, r.f1.f1, r.f1.f2, true) | none => (0, 0, 0, ⟨#[]⟩, false)) := by
  rcases List.eq_nil_or_concat out with rfl | ⟨o, r, rfl⟩
  · rfl
  · simp only [List.concat_eq_append] at *
    have hw : wrap64 (((o ++ [r]).length : Int) - 1) = (o.length : Int) := by
      rw [List.length_append, List.length_singleton]; unfold wrap64; rw [List.length_append, List.length_singleton] at hl; omega
    unfold rle_Run.f
    rw [hw, if_neg (by simp; omega), if_pos (by omega), if_pos (by simp; omega), rd49_at _ _ (by simp), List.getLast?_concat]
    simp
theorem runs_l (l : List S32) (hl : l.length ≤ 1000000) : ∀ (j k i : Nat) (out : List S49), i + j = l.length → j < k → Inv out i → rle_Runs.l0 k out l (l.length : Int) (i : Int) = some (runs out (l.drop i)) := by
  intro j
  induction j with
  | zero =>
    intro k i out hi hk _
    obtain ⟨k, rfl⟩ : ∃ m, k = m + 1 := ⟨k - 1, by omega⟩
    simp only [rle_Runs.l0]
    rw [if_neg (by omega), List.drop_eq_nil_of_le (by omega)]
    rfl
  | succ j ih =>
    intro k i out hi hk hinv
    obtain ⟨k, rfl⟩ : ∃ m, k = m + 1 := ⟨k - 1, by omega⟩
    have hil : i < l.length := by omega
    have hww : wrap64 ((i : Int) + 1) = ((i + 1 : Nat) : Int) := by unfold wrap64; omega
    have hnext := ih k (i + 1) (step out l[i]) (by omega) (by omega) (inv_step hinv l[i])
    have hr : runs out (l.drop i) = runs (step out l[i]) (l.drop (i + 1)) := by
      rw [List.drop_eq_getElem_cons hil]; rfl
    have hil2 := hinv.1
    simp only [rle_Runs.l0, rd_at l i hil, hww]
    rw [if_pos (by omega), if_pos (by omega), if_pos (by omega), last_f out (by omega)]
    simp only [Option.bind_some]
    rw [hr, ← hnext]
    rcases List.eq_nil_or_concat out with rfl | ⟨o, r, rfl⟩
    · simp only [List.getLast?_nil, Bool.false_eq_true, if_false]
      rw [if_pos (by simp)]
      rfl
    · simp only [List.concat_eq_append] at *
      have hr0 := hinv.2 r (by simp)
      have hlen : (o ++ [r]).length = o.length + 1 := by simp
      have hw : wrap64 (((o ++ [r]).length : Int) - 1) = (o.length : Int) := by
        rw [hlen]; unfold wrap64; omega
      simp only [List.getLast?_concat, hw]
      rw [if_pos trivial, step_snoc, rd49_at _ o.length (by simp)]
      have e : (o ++ [r])[o.length]'(by simp) = r := by simp
      rw [e]
      by_cases h : r.f1 = l[i]
      · rw [if_pos ((veq _ _).2 h), if_pos h, if_pos (by omega), if_pos (by omega), Int.toNat_natCast]
        have hset : ∀ x : S49, (o ++ [r]).set o.length x = o ++ [x] := by intro x; simp
        rw [hset, show wrap64 (r.f0 + 1) = r.f0 + 1 by unfold wrap64; omega, ← h]
      · rw [if_neg (fun q => h ((veq _ _).1 q)), if_neg h, if_pos (by omega)]
theorem runs_f (l : List S32) (hl : l.length ≤ 1000000) (k : Nat) (hk : l.length < k) : rle_Runs.f k l = some (runs [] l) := by
  have := runs_l l hl l.length k 0 [] (by omega) hk inv_nil
  unfold rle_Runs.f
  simpa using this

/-- Runs, spread. -/
def exp (out : List S49) : List S32 := out.flatMap fun r => List.replicate r.f0.toNat r.f1
theorem exp_append (a b : List S49) : exp (a ++ b) = exp a ++ exp b := by unfold exp; rw [List.flatMap_append]
theorem exp_one (r : S49) : exp [r] = List.replicate r.f0.toNat r.f1 := by simp [exp]
theorem exp_step {out : List S49} (h : ∀ r ∈ out, 1 ≤ r.f0) (v : S32) : exp (step out v) = exp out ++ [v] := by
  rcases List.eq_nil_or_concat out with rfl | ⟨o, r, rfl⟩
  · rfl
  · simp only [List.concat_eq_append] at *
    have hr := h r (by simp)
    rw [step_snoc]
    split
    · rename_i e
      rw [exp_append, exp_append, exp_one, exp_one, List.append_assoc]
      congr 1
      rw [e, show (r.f0 + 1).toNat = r.f0.toNat + 1 by omega, List.replicate_succ']
    · rw [exp_append (o ++ [r])]; rfl
theorem exp_runs : ∀ (l : List S32) (out : List S49) (i : Nat), Inv out i → exp (runs out l) = exp out ++ l
  | [], out, i, _ => by simp [runs]
  | v :: t, out, i, h => by
    have ih := exp_runs t (step out v) (i + 1) (inv_step h v)
    have e := exp_step (fun r hr => (h.2 r hr).1) v
    unfold runs at *
    rw [List.foldl_cons, ih, e]
    simp
theorem exp_all (l : List S32) : exp (runs [] l) = l := by
  have := exp_runs l [] 0 inv_nil
  simpa [exp] using this
/-- No two behind one another have one value. -/
def Adj (out : List S49) : Prop := ∀ x y a b, out = a ++ [x, y] ++ b → x.f1 ≠ y.f1
theorem adj_nil : Adj [] := by intro x y a b h; simp at h
theorem adj_step {out : List S49} (h : Adj out) (v : S32) : Adj (step out v) := by
  rcases List.eq_nil_or_concat out with rfl | ⟨o, r, rfl⟩
  · intro x y a b e
    rw [step_nil] at e
    have := congrArg List.length e
    simp at this
    omega
  · simp only [List.concat_eq_append] at *
    rw [step_snoc]
    split
    · rename_i hv
      intro x y a b e
      rcases List.eq_nil_or_concat b with rfl | ⟨b', z, rfl⟩
      · have e2 : o ++ [⟨r.f0 + 1, v⟩] = (a ++ [x]) ++ [y] := by rw [e]; simp
        obtain ⟨e3, e4⟩ := List.append_inj' e2 rfl
        have := h x r a [] (by rw [e3]; simp)
        have ey : y = ⟨r.f0 + 1, v⟩ := (List.cons.inj e4).1.symm
        rw [ey]
        show x.f1 ≠ v
        rw [← hv]
        exact this
      · simp only [List.concat_eq_append] at e
        have e2 : o ++ [⟨r.f0 + 1, v⟩] = (a ++ [x, y] ++ b') ++ [z] := by rw [e]; simp
        obtain ⟨e3, -⟩ := List.append_inj' e2 rfl
        exact h x y a (b' ++ [r]) (by rw [e3]; simp)
    · rename_i hv
      intro x y a b e
      rcases List.eq_nil_or_concat b with rfl | ⟨b', z, rfl⟩
      · have e2 : (o ++ [r]) ++ [⟨1, v⟩] = (a ++ [x]) ++ [y] := by rw [e]; simp
        obtain ⟨e3, e4⟩ := List.append_inj' e2 rfl
        obtain ⟨-, e5⟩ := List.append_inj' e3 rfl
        have ey : y = ⟨1, v⟩ := (List.cons.inj e4).1.symm
        have ex : r = x := (List.cons.inj e5).1
        rw [ey, ← ex]
        exact hv
      · simp only [List.concat_eq_append] at e
        have e2 : (o ++ [r]) ++ [⟨1, v⟩] = (a ++ [x, y] ++ b') ++ [z] := by rw [e]; simp
        obtain ⟨e3, -⟩ := List.append_inj' e2 rfl
        exact h x y a b' e3
theorem adj_runs : ∀ (l : List S32) (out : List S49), Adj out → Adj (runs out l)
  | [], _, h => h
  | v :: t, out, h => by
    have := adj_runs t _ (adj_step h v)
    unfold runs at *
    exact this
theorem adj_at {out : List S49} (h : Adj out) (i : Nat) (hi : i + 1 < out.length) : out[i].f1 ≠ out[i + 1].f1 := by
  refine h _ _ (out.take i) (out.drop (i + 2)) ?_
  have := List.take_append_drop i out
  rw [List.drop_eq_getElem_cons (show i < out.length by omega), List.drop_eq_getElem_cons hi] at this
  exact this.symm.trans (by simp)
theorem exp_take (out : List S49) (i : Nat) (hi : i < out.length) : exp (out.take (i + 1)) = exp (out.take i) ++ List.replicate out[i].f0.toNat out[i].f1 := by
  rw [← List.take_append_getElem hi, exp_append, exp_one]
theorem exp_take_le (out : List S49) (i : Nat) : (exp (out.take i)).length ≤ (exp out).length := by
  have := congrArg exp (List.take_append_drop i out)
  rw [exp_append] at this
  rw [← this, List.length_append]
  omega
theorem rep_f (x : S32) (n : Int) (h0 : 0 ≤ n) (h1 : n ≤ 4096) : api_Val_49.f [x] n = some (List.replicate n.toNat x) := by
  unfold api_Val_49.f
  rw [if_pos ⟨rfl, h0, h1⟩]
  rfl
theorem spread_l (r : List S49) (hr : r.length ≤ 1000000) (hp : ∀ x ∈ r, 1 ≤ x.f0) (ht : (exp r).length ≤ 4096) : ∀ (j k i : Nat), i + j = r.length → j < k → rle_Spread.l0 k (exp (r.take i)) r (r.length : Int) (i : Int) = some (exp r) := by
  intro j
  induction j with
  | zero =>
    intro k i hi hk
    obtain ⟨k, rfl⟩ : ∃ m, k = m + 1 := ⟨k - 1, by omega⟩
    simp only [rle_Spread.l0]
    rw [if_neg (by omega), List.take_of_length_le (by omega)]
  | succ j ih =>
    intro k i hi hk
    obtain ⟨k, rfl⟩ : ∃ m, k = m + 1 := ⟨k - 1, by omega⟩
    have hil : i < r.length := by omega
    have h1 := hp r[i] (List.getElem_mem hil)
    have e := exp_take r i hil
    have hle := exp_take_le r (i + 1)
    rw [e, List.length_append, List.length_replicate] at hle
    have hmn : mn (mx r[i].f0 0) (wrap64 (4096 - ((exp (r.take i)).length : Int))) = r[i].f0 := by
      have hw : wrap64 (4096 - ((exp (r.take i)).length : Int)) = 4096 - ((exp (r.take i)).length : Int) := by unfold wrap64; omega
      rw [hw]
      unfold mn mx
      rw [if_neg (show ¬ r[i].f0 < 0 by omega), if_neg (by omega)]
    simp only [rle_Spread.l0]
    rw [if_pos (by omega), if_pos (by omega), if_pos (by omega), rd49_at r i hil, hmn]
    have hx : (⟨r[i].f1.f0, r[i].f1.f1, r[i].f1.f2⟩ : S32) = r[i].f1 := rfl
    rw [hx, rep_f r[i].f1 r[i].f0 (by omega) (by omega)]
    simp only [Option.bind_some]
    rw [if_pos (by rw [List.length_replicate]; omega), ← e, show wrap64 ((i : Int) + 1) = ((i + 1 : Nat) : Int) by unfold wrap64; omega]
    exact ih k (i + 1) (by omega) (by omega)
theorem spread_f (r : List S49) (hr : r.length ≤ 1000000) (hp : ∀ x ∈ r, 1 ≤ x.f0) (ht : (exp r).length ≤ 4096) (k : Nat) (hk : r.length < k) : rle_Spread.f k r = some (exp r) := by
  have := spread_l r hr hp ht r.length k 0 (by omega) hk
  unfold rle_Spread.f
  simpa [exp] using this
theorem spread_runs (l : List S32) (hl : l.length ≤ 4096) (k : Nat) (hk : l.length < k) : rle_Spread.f k (runs [] l) = some l := by
  have hinv := inv_runs l [] 0 inv_nil
  have h1 := hinv.1
  rw [spread_f (runs [] l) (by omega) (fun x hx => (hinv.2 x hx).1) (by rw [exp_all]; exact hl) k (by omega), exp_all]
theorem same_l (l : List S32) (hl : l.length ≤ 1000000) : ∀ (j k i : Nat), i + j = l.length → j < k → ref05_Same.l0 k l l (i : Int) = some true := by
  intro j
  induction j with
  | zero =>
    intro k i hi hk
    obtain ⟨k, rfl⟩ : ∃ m, k = m + 1 := ⟨k - 1, by omega⟩
    simp only [ref05_Same.l0]
    rw [if_neg (by omega)]
  | succ j ih =>
    intro k i hi hk
    obtain ⟨k, rfl⟩ : ∃ m, k = m + 1 := ⟨k - 1, by omega⟩
    simp only [ref05_Same.l0]
    rw [if_pos (by omega), if_pos (by omega), if_pos (by omega), if_neg (by simp), show wrap64 ((i : Int) + 1) = ((i + 1 : Nat) : Int) by unfold wrap64; omega]
    exact ih k (i + 1) (by omega) (by omega)
theorem same_f (l : List S32) (hl : l.length ≤ 1000000) (k : Nat) (hk : l.length < k) : ref05_Same.f k l l = some true := by
  unfold ref05_Same.f
  rw [if_pos rfl]
  exact same_l l hl l.length k 0 (by omega) hk

end Go.Proofs.Ytjchjdbfmiibhaa.PureB
