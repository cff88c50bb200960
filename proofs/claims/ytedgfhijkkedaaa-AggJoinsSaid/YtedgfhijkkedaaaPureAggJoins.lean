/-
  Counts of rows one behind others are those of both, group by group; a group's sum of one number is that number times its count: for every input. (AggJoins)
-/
import Derived.Test.YtedgfhijkkedaaaPAggx9
import Derived.Test.YtedgfhijkkedaaaGpB
namespace Go.Proofs.Ytedgfhijkkedaaa.PAgg
open Go.RowKit Go.Proofs.YtedgfhijkkedaaaW.PrintWords Go.Proofs.YtedgfhijkkedaaaW.PrintLast
open Go.Proofs.Ytedgfhijkkedaaa.Hand (sumOut)
set_option linter.unusedVariables false
set_option linter.unusedSimpArgs false

def oneV1 (c : Int) : S39 := ⟨1, c, ⟨#[]⟩⟩
def rowOf (u : Int) (c : Nat) : List S39 := [oneV1 (c : Int), oneV1 u]
def cnts (K : Nat) (F : Nat → Int) : List Int := (List.range K).map F
theorem cnts_len (K : Nat) (F : Nat → Int) : (cnts K F).length = K := by simp [cnts]
theorem rd_cnts (K : Nat) (F : Nat → Int) (c : Nat) (h : c < K) : rd (cnts K F) (c : Int) = F c := by
  unfold rd cnts
  rw [Int.toNat_natCast, List.getD_eq_getElem?_getD, List.getElem?_map, List.getElem?_range h]
  rfl
theorem set_cnts (K : Nat) (F : Nat → Int) (c : Nat) (v : Int) : (cnts K F).set c v = cnts K (fun d => if d = c then v else F d) := by
  unfold cnts
  apply List.ext_getElem
  · simp
  · intro i h1 h2
    rw [List.getElem_set]
    simp only [List.getElem_map, List.getElem_range]
    by_cases e : c = i
    · rw [if_pos e, if_pos e.symm]
    · rw [if_neg e, if_neg (fun h => e h.symm)]
theorem cnts_congr (K : Nat) (F G : Nat → Int) (h : ∀ c, c < K → F c = G c) : cnts K F = cnts K G := by
  unfold cnts
  exact List.map_congr_left (fun c hc => h c (List.mem_range.1 hc))
def tal (ns : List Nat) (c : Nat) : Int := ((ns.filter fun d => decide (d = c)).length : Int)
theorem tal_snoc (ns : List Nat) (d c : Nat) : tal (ns ++ [d]) c = tal ns c + if c = d then 1 else 0 := by
  unfold tal
  rw [List.filter_append, List.length_append]
  by_cases h : c = d
  · subst h; simp
  · rw [if_neg h, List.filter_cons_of_neg (by simp; exact fun e => h e.symm)]; simp
theorem tal_le (ns : List Nat) (c : Nat) : 0 ≤ tal ns c ∧ tal ns c ≤ (ns.length : Int) := by
  unfold tal
  have := List.length_filter_le (fun d => decide (d = c)) ns
  omega
theorem tal_zero (ns : List Nat) (c : Nat) (h : c ∉ ns) : tal ns c = 0 := by
  unfold tal
  rw [List.filter_eq_nil_iff.2 (fun d hd => by
    rw [decide_eq_true_eq]; rintro rfl; exact h hd)]
  rfl
theorem firsts_map {α β : Type} [DecidableEq α] [DecidableEq β] (f : α → β) (hf : ∀ a b, f a = f b → a = b) (l : List α) : firsts (l.map f) = (firsts l).map f := by
  induction l using snoc_ind with
  | h0 => rfl
  | h1 l c ih =>
    rw [List.map_append, List.map_singleton, firsts_snoc, firsts_snoc, ih]
    have hm : f c ∈ (firsts l).map f ↔ c ∈ firsts l := by
      rw [List.mem_map]
      constructor
      · rintro ⟨a, ha, e⟩; rw [← hf _ _ e]; exact ha
      · intro h; exact ⟨c, h, rfl⟩
    by_cases h : c ∈ firsts l
    · rw [if_pos h, if_pos (hm.2 h)]
    · rw [if_neg h, if_neg (fun e => h (hm.1 e)), List.map_append, List.map_singleton]

def cls (K : Nat) (l : List Int) : List Nat := l.map fun x => (x % (K : Int)).toNat
theorem joins_l0 (l1 : List Int) (u : Int) (K : Nat) (hK : 0 < K) (hu : wrap64 u = u) (hb : ∀ x ∈ l1, 0 ≤ x ∧ x ≤ 255) : ∀ (d k i : Nat), i + d = min l1.length 150 → d < k →
    law20_AggJoins.l0 k l1 u true (K : Int) (cnts K (tal (cls K (l1.take i)))) ((cls K (l1.take i)).map (rowOf u)) (i : Int) =
      law20_AggJoins.j1 (k - d - 1) u true (K : Int) (cnts K (tal (cls K (l1.take (min l1.length 150))))) ((cls K (l1.take (min l1.length 150))).map (rowOf u)) := by
  intro d
  induction d with
  | zero =>
    intro k i hi hk
    obtain ⟨k, rfl⟩ : ∃ m, k = m + 1 := ⟨k - 1, by omega⟩
    rw [law20_AggJoins.l0, show i = min l1.length 150 by omega]
    by_cases h : ((min l1.length 150 : Nat) : Int) < (l1.length : Int)
    · rw [if_pos h, if_neg (by omega)]; rfl
    · rw [if_neg h]; rfl
  | succ d ih =>
    intro k i hi hk
    obtain ⟨k, rfl⟩ : ∃ m, k = m + 1 := ⟨k - 1, by omega⟩
    have hlt : i < l1.length := by omega
    obtain ⟨b0, b1⟩ := hb l1[i] (List.getElem_mem hlt)
    have hrd : rd l1 (i : Int) = l1[i] := by
      unfold rd
      rw [Int.toNat_natCast, List.getD_eq_getElem?_getD, List.getElem?_eq_getElem hlt]; rfl
    have hw : wrap64 l1[i] = l1[i] := by unfold wrap64; omega
    obtain ⟨c, hc⟩ : ∃ c : Nat, l1[i] % (K : Int) = (c : Int) := ⟨(l1[i] % (K : Int)).toNat, by have := Int.emod_nonneg l1[i] (show (K : Int) ≠ 0 by omega); omega⟩
    have hcK : c < K := by have := Int.emod_lt_of_pos l1[i] (show (0 : Int) < (K : Int) by omega); omega
    have hmod : Int.tmod l1[i] (K : Int) = (c : Int) := by rw [Int.tmod_eq_emod_of_nonneg b0]; exact hc
    have hcls : cls K (l1.take (i + 1)) = cls K (l1.take i) ++ [c] := by
      rw [List.take_succ_eq_append_getElem hlt]
      unfold cls
      rw [List.map_append, List.map_singleton, hc]
      rfl
    have hclen : (cls K (l1.take i)).length ≤ 150 := by unfold cls; rw [List.length_map, List.length_take]; omega
    have ht := tal_le (cls K (l1.take i)) c
    have IH := ih k (i + 1) (by omega) (by omega)
    rw [hcls, List.map_append, List.map_singleton] at IH
    rw [law20_AggJoins.l0, if_pos (by omega), if_pos (by omega), if_pos (by omega), if_neg (by omega), hrd, hw, hmod, if_pos (by omega), cnts_len, if_pos (by omega), if_pos (by rw [List.length_map]; omega), rd_cnts K _ c hcK, Int.toNat_natCast, set_cnts,
      hu, w64n (by omega), show wrap64 (tal (cls K (l1.take i)) c + 1) = tal (cls K (l1.take i)) c + 1 by unfold wrap64; omega, show k + 1 - (d + 1) - 1 = k - d - 1 by omega]
    rw [cnts_congr K (fun d => if d = c then tal (cls K (l1.take i)) c + 1 else tal (cls K (l1.take i)) d) (tal (cls K (l1.take i) ++ [c])) (fun d hd => by
      rw [tal_snoc]
      by_cases e : d = c
      · subst e; rw [if_pos rfl, if_pos rfl]
      · rw [if_neg e, if_neg e, Int.add_zero])]
    exact IH
theorem colOf_rows (u : Int) (hr : List Nat) : colOf 1 (hr.map (rowOf u)) = hr.map fun _ => oneV1 u := by
  unfold colOf
  rw [List.map_map]
  rw [List.filter_eq_self.2 (fun v hv => by
    obtain ⟨c, _, rfl⟩ := List.mem_map.1 hv
    rfl)]
  rfl
theorem nums_rows (u : Int) (hr : List Nat) : numsOf (hr.map fun _ => oneV1 u) = hr.map fun _ => u := by
  unfold numsOf
  rw [List.filter_eq_self.2 (fun v hv => by
    obtain ⟨c, _, rfl⟩ := List.mem_map.1 hv
    rfl), List.map_map]
  rfl
theorem sum_const (u : Int) : ∀ hr : List Nat, (hr.map fun _ => u).sum = (hr.length : Int) * u
  | [] => by simp
  | c :: t => by
    rw [List.map_cons, List.sum_cons, sum_const u t, List.length_cons, Int.natCast_add, Int.add_mul]
    simp; omega
def joinRow (u : Int) (ns : List Nat) (c : Nat) : List S39 := [oneV1 (c : Int), oneV1 (tal ns c), oneV1 (tal ns c * u)]
theorem mul_bound {n u : Int} (h0 : 0 ≤ n) (h1 : n ≤ 150) (hu : -2147483648 ≤ u ∧ u ≤ 2147483647) : -322122547200 ≤ n * u ∧ n * u ≤ 322122547200 := by
  have a := Int.mul_le_mul_of_nonneg_left hu.2 h0
  have b := Int.mul_le_mul_of_nonneg_left hu.1 h0
  omega
theorem joins_group (ns : List Nat) (u : Int) (hu : -2147483648 ≤ u ∧ u ≤ 2147483647) (hn : ns.length ≤ 150) (hcl : ∀ c ∈ ns, c ≤ 255) (k : Nat) (hk : 150 < k) :
    agg_Group.f k (ns.map (rowOf u)) 1 [(⟨1, 0⟩ : S36), (⟨2, 1⟩ : S36)] = some ((firsts ns).map (joinRow u ns), 0) := by
  unfold agg_Group.f groupF
  rw [if_neg (by
    rintro (h | h)
    · omega
    · obtain ⟨r, hr, h2⟩ := List.any_eq_true.1 h
      obtain ⟨c, _, rfl⟩ := List.mem_map.1 hr
      rw [decide_eq_true_eq] at h2
      simp [rowOf] at h2
      ), if_pos ⟨by rw [List.length_map]; omega, by omega, by simp⟩]
  have hg : groupsF 1 (ns.map (rowOf u)) = (firsts ns).map fun c => (ns.filter fun d => decide (d = c)).map (rowOf u) := by
    unfold groupsF
    rw [if_neg (by decide), groups_eq, List.map_map]
    have e1 : (fun c => [oneV1 ((c : Nat) : Int)]) = (keyN (Int.toNat 1) ∘ rowOf u) := by funext c; rfl
    rw [← e1, firsts_map (fun c : Nat => [oneV1 (c : Int)]) (fun a b h => by simp [oneV1] at h; omega), List.map_map]
    refine List.map_congr_left (fun c _ => ?_)
    show grp (Int.toNat 1) (ns.map (rowOf u)) [oneV1 (c : Int)] = _
    unfold grp
    rw [List.filter_map]
    congr 1
    refine List.filter_congr (fun d _ => ?_)
    show decide ([oneV1 (d : Int)] = [oneV1 (c : Int)]) = decide (d = c)
    by_cases e : d = c
    · subst e; simp
    · rw [decide_eq_false e, decide_eq_false (by simp [oneV1]; omega)]
  rw [hg, all_gen k 1 _ (fun g => headOf 1 g ++ [⟨1, (g.length : Int), ⟨#[]⟩⟩, oneV1 ((g.length : Int) * u)]) _ _ (fun g hgm => ?_)]
  · rw [List.nil_append, List.map_map]
    refine congrArg some (congrArg (fun l => (l, (0 : Int))) (List.map_congr_left (fun c hc => ?_)))
    have hc2 := (mem_firsts _ _).1 hc
    obtain ⟨x, t, e⟩ : ∃ x t, (ns.filter fun d => decide (d = c)) = x :: t := by
      cases hf : (ns.filter fun d => decide (d = c)) with
      | nil => exact absurd (show c ∈ ns.filter fun d => decide (d = c) from List.mem_filter.2 ⟨hc2, by simp⟩) (by rw [hf]; exact List.not_mem_nil)
      | cons x t => exact ⟨x, t, rfl⟩
    have hx : x = c := by
      have : x ∈ ns.filter fun d => decide (d = c) := by rw [e]; exact List.mem_cons_self ..
      have h2 := (List.mem_filter.1 this).2
      rw [decide_eq_true_eq] at h2
      exact h2
    have ht : tal ns c = (((x :: t).map (rowOf u)).length : Int) := by unfold tal; rw [e, List.length_map]
    show headOf 1 ((ns.filter fun d => decide (d = c)).map (rowOf u)) ++ [⟨1, (((ns.filter fun d => decide (d = c)).map (rowOf u)).length : Int), ⟨#[]⟩⟩, oneV1 ((((ns.filter fun d => decide (d = c)).map (rowOf u)).length : Int) * u)] = joinRow u ns c
    unfold joinRow
    rw [e, ht, hx]
    rfl
  · obtain ⟨c, hc, rfl⟩ := List.mem_map.1 hgm
    have hc2 := (mem_firsts _ _).1 hc
    have hm : c ∈ ns.filter fun d => decide (d = c) := List.mem_filter.2 ⟨hc2, by simp⟩
    have hl := List.length_filter_le (fun d => decide (d = c)) ns
    have hcl2 : ∀ d ∈ ns.filter (fun d => decide (d = c)), d ≤ 255 := fun d hd => hcl d (List.mem_filter.1 hd).1
    generalize ns.filter (fun d => decide (d = c)) = ms at *
    have hms : 0 < ms.length := List.length_pos_of_mem hm
    have hb := mul_bound (n := (ms.length : Int)) (by omega) (by omega) hu
    have hso : sumOut ((ms.length : Int) * u) = ((ms.length : Int) * u, 0) := by unfold sumOut; rw [if_pos (by omega)]
    rw [row_gen k _ (fun a => (oneV (ms.map (rowOf u)) a.f0 a.f1).1) _ _ (fun a ha => ?_)]
    · refine congrArg some (congrArg (fun l => (l, (0 : Int))) ?_)
      congr 1
      simp only [List.map_cons, List.map_nil]
      congr 1
      congr 1
      unfold oneV
      rw [if_neg (by decide), if_pos rfl, colOf_rows, totV, nums_rows, List.length_map, if_neg (by omega), sum_const, List.length_map, hso, if_pos rfl]
      rfl
    · rw [one_f _ _ _ (by rw [List.length_map]; omega) (fun r hr v hv => by
        obtain ⟨d, hd, rfl⟩ := List.mem_map.1 hr
        have := hcl2 d hd
        unfold rowOf at hv
        simp only [List.mem_cons, List.not_mem_nil, or_false] at hv
        unfold i64V
        rcases hv with rfl | rfl
        · simp only [oneV1]; omega
        · simp only [oneV1]; omega) k (by rw [List.length_map]; omega)]
      simp only [List.mem_cons, List.not_mem_nil, or_false] at ha
      rcases ha with rfl | rfl
      · rfl
      · refine congrArg some (Prod.ext rfl ?_)
        unfold oneV
        rw [if_neg (by decide), if_pos rfl, colOf_rows, totV, nums_rows, List.length_map, if_neg (by omega), sum_const, hso, if_pos rfl]
theorem joins_l2 (K : Nat) (hK : K ≤ 1000) (Z : Nat → Int) (hz : ∀ c, c < K → Z c = 0) : ∀ (d k i : Nat), i + d = K → d < k → law20_AggJoins.l2 k true (K : Int) (cnts K Z) (i : Int) = some true := by
  intro d
  induction d with
  | zero =>
    intro k i hi hk
    obtain ⟨k, rfl⟩ : ∃ m, k = m + 1 := ⟨k - 1, by omega⟩
    rw [law20_AggJoins.l2, if_neg (by omega)]
  | succ d ih =>
    intro k i hi hk
    obtain ⟨k, rfl⟩ : ∃ m, k = m + 1 := ⟨k - 1, by omega⟩
    rw [law20_AggJoins.l2, if_pos (by omega), if_pos (by omega), cnts_len, if_pos (by omega), rd_cnts K Z i (by omega), hz i (by omega), if_pos rfl, w64n (by omega)]
    exact ih k (i + 1) (by omega) (by omega)
theorem joins_l1 (K : Nat) (hK : K ≤ 5) (u : Int) (hu : -2147483648 ≤ u ∧ u ≤ 2147483647) (ns : List Nat) (hn : ns.length ≤ 150) (hcl : ∀ c ∈ ns, c < K) (x7 : Bool) (hx7 : x7 = true) :
    ∀ (d k i : Nat), i + d = (firsts ns).length → 2 * d + 10 < k → (firsts ns).length ≤ 150 →
      law20_AggJoins.l1 k u x7 (K : Int) (cnts K (fun c => if c ∈ (firsts ns).take i then 0 else tal ns c)) ((firsts ns).map (joinRow u ns)) (i : Int) = some true := by
  subst hx7
  intro d
  induction d with
  | zero =>
    intro k i hi hk hf
    obtain ⟨k, rfl⟩ : ∃ m, k = m + 1 := ⟨k - 1, by omega⟩
    rw [law20_AggJoins.l1, List.length_map, if_neg (by omega), List.take_of_length_le (by omega)]
    exact joins_l2 K (by omega) _ (fun c hc => by
      split
      · rfl
      · rename_i h
        exact tal_zero ns c (fun h2 => h ((mem_firsts _ _).2 h2))) K k 0 (by omega) (by omega)
  | succ d ih =>
    intro k i hi hk hf
    obtain ⟨k, rfl⟩ : ∃ m, k = m + 2 := ⟨k - 2, by omega⟩
    have hlt : i < (firsts ns).length := by omega
    have hlm : i < ((firsts ns).map (joinRow u ns)).length := by rw [List.length_map]; exact hlt
    obtain ⟨c, hc⟩ : ∃ c, c = (firsts ns)[i] := ⟨_, rfl⟩
    have hcm : c ∈ firsts ns := by rw [hc]; exact List.getElem_mem hlt
    have hcK := hcl c ((mem_firsts _ _).1 hcm)
    have hrow : rd_L3 ((firsts ns).map (joinRow u ns)) (i : Int) = joinRow u ns c := by rw [rdL3 _ _ hlm, List.getElem_map, ← hc]
    have hni : c ∉ (firsts ns).take i := by
      intro h
      obtain ⟨j, hj, e⟩ := List.mem_iff_getElem.1 h
      rw [List.length_take] at hj
      rw [List.getElem_take, hc] at e
      have := (List.getElem_inj (nodup_firsts ns)).1 e
      omega
    have ht := tal_le ns c
    have hm := mul_bound (n := tal ns c) (by omega) (by omega) hu
    have hlen : (joinRow u ns c).length = 3 := rfl
    have r0 : (rd_T39 (joinRow u ns c) 0).f1 = (c : Int) := rfl
    have r1 : (rd_T39 (joinRow u ns c) 1).f1 = tal ns c := rfl
    have r2 : (rd_T39 (joinRow u ns c) 2).f1 = tal ns c * u := rfl
    rw [law20_AggJoins.l1, List.length_map, if_pos (by omega), if_pos (by omega), hrow, hlen, if_pos (by decide), if_pos (by decide), r0, if_neg (by omega), law20_AggJoins.j3, if_neg (by rw [decide_eq_true_eq]; omega), if_pos (by omega), List.length_map, if_pos (by omega),
      hrow, hlen, if_pos (by decide), r0, if_pos (by omega), cnts_len, if_pos (by omega), if_pos (by decide), r1, rd_cnts K _ c hcK, if_neg hni, if_pos rfl, if_pos (by decide), r2,
      show wrap64 u = u by unfold wrap64; omega, show wrap64 (tal ns c * u) = tal ns c * u by unfold wrap64; omega, if_pos rfl, Int.toNat_natCast, set_cnts, w64n (by omega)]
    rw [cnts_congr K _ (fun e => if e ∈ (firsts ns).take (i + 1) then 0 else tal ns e) (fun e he => by
      rw [List.take_succ_eq_append_getElem hlt, ← hc]
      simp only [List.mem_append, List.mem_singleton]
      by_cases h1 : e = c
      · rw [if_pos h1, if_pos (.inr h1)]
      · rw [if_neg h1]
        by_cases h2 : e ∈ (firsts ns).take i
        · rw [if_pos h2, if_pos (.inl h2)]
        · rw [if_neg h2, if_neg (by rintro (h | h) <;> contradiction)])]
    exact ih k (i + 1) (by omega) (by omega) hf
theorem firsts_len {α : Type} [DecidableEq α] (l : List α) : (firsts l).length ≤ l.length := by
  induction l using snoc_ind with
  | h0 => exact Nat.le_refl _
  | h1 l c ih =>
    rw [firsts_snoc, List.length_append]
    split
    · omega
    · rw [List.length_append]; simp only [List.length_singleton]; omega
end Go.Proofs.Ytedgfhijkkedaaa.PAgg
namespace Go.Proofs.Ytedgfhijkkedaaa.Pure
open Go.RowKit Go.Proofs.Ytedgfhijkkedaaa.PAgg Go.Proofs.YtedgfhijkkedaaaW.PrintWords Go.Proofs.YtedgfhijkkedaaaW.PrintLast
theorem AggJoins : PAgg.law20_AggJoins.Pure := by
  intro a0 l1 u h0 _ _ hb hu
  have h0 : 0 ≤ a0 ∧ a0 ≤ 255 := by simpa [Lit.wf, IntKind.min, IntKind.max, IntKind.signed, IntKind.bits] using h0
  have hu : -2147483648 ≤ u ∧ u ≤ 2147483647 := by simpa [Lit.wf, IntKind.min, IntKind.max, IntKind.signed, IntKind.bits] using hu
  have hb : ∀ x ∈ l1, 0 ≤ x ∧ x ≤ 255 := fun x hx => by simpa [Lit.wf, IntKind.min, IntKind.max, IntKind.signed, IntKind.bits] using hb x hx
  obtain ⟨K, hK, hK1, hK5⟩ : ∃ K : Nat, wrap64 (1 + wrap64 (Int.tmod a0 5)) = (K : Int) ∧ 0 < K ∧ K ≤ 5 := by
    rw [Int.tmod_eq_emod_of_nonneg h0.1]
    refine ⟨(1 + a0 % 5).toNat, ?_, ?_, ?_⟩
    · unfold wrap64; omega
    · omega
    · omega
  refine ⟨100000, ?_⟩
  unfold law20_AggJoins.f
  rw [shown_true, Option.bind_some, hK, if_pos (by omega), Int.toNat_natCast, if_pos (by omega)]
  have hw : wrap64 u = u := by unfold wrap64; omega
  have h := joins_l0 l1 u K hK1 hw hb (min l1.length 150) 100000 0 (by omega) (by omega)
  have hrep : List.replicate K (0 : Int) = cnts K (tal (cls K (l1.take 0))) := by
    symm
    rw [List.eq_replicate_iff]
    refine ⟨cnts_len _ _, fun b hb => ?_⟩
    obtain ⟨c, _, rfl⟩ := List.mem_map.1 hb
    rfl
  rw [hrep]
  rw [show ((0 : Nat) : Int) = 0 from rfl] at h
  refine h.trans ?_
  have hlen : (cls K (l1.take (min l1.length 150))).length ≤ 150 := by unfold cls; rw [List.length_map, List.length_take]; omega
  have hcl : ∀ c ∈ cls K (l1.take (min l1.length 150)), c < K := by
    intro c hc
    obtain ⟨x, hx, rfl⟩ := List.mem_map.1 hc
    have a := Int.emod_lt_of_pos x (show (0 : Int) < (K : Int) by omega)
    have b := Int.emod_nonneg x (show (K : Int) ≠ 0 by omega)
    omega
  have hmin : min l1.length 150 ≤ 150 := Nat.min_le_right _ _
  generalize cls K (l1.take (min l1.length 150)) = ns at *
  obtain ⟨k, hk⟩ : ∃ k, 100000 - min l1.length 150 - 1 = k + 1 := ⟨100000 - min l1.length 150 - 2, by omega⟩
  rw [hk, law20_AggJoins.j1, joins_group ns u hu hlen (fun c hc => by have := hcl c hc; omega) k (by omega), Option.bind_some, if_pos rfl]
  have hf := firsts_len ns
  have := joins_l1 K hK5 u hu ns hlen hcl true rfl (firsts ns).length k 0 (by omega) (by omega) (by omega)
  rw [List.take_zero] at this
  rw [cnts_congr K (tal ns) (fun c => if c ∈ ([] : List Nat) then 0 else tal ns c) (fun c _ => by rw [if_neg (by simp)])]
  exact this
end Go.Proofs.Ytedgfhijkkedaaa.Pure
