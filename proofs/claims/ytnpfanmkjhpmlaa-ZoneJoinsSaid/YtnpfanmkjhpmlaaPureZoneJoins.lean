/-
  The zone of two rows of values is their zones joined; what it says of none, both say: for every two rows and every atom. (ZoneJoins)
-/
import Derived.Test.YtnpfanmkjhpmlaaPZojx15
import Derived.Test.YtnpfanmkjhpmlaaZojC
namespace Go.Proofs.Ytnpfanmkjhpmlaa.Pure
open Go.RowKit Go.Proofs.Ytnpfanmkjhpmlaa.PZoj Go.Proofs.YtnpfanmkjhpmlaaW.PrintWords Go.Proofs.YtnpfanmkjhpmlaaW.PrintLast
open Go.Proofs.Ytnpfanmkjhpmlaa.Hand (U cl ck cl_U u64 u64_U cmpI valCmp strCmp turnedOf)

theorem min_assoc (a b c : S24) : stepMin (stepMin a b) c = stepMin a (stepMin b c) := by
  have h1 := vc_anti a b
  have h2 := @vc_lt_le c b a
  have h3 := @vc_lt_le c a b
  unfold stepMin
  by_cases hb : vc b a < 0
  · rw [if_pos hb]
    by_cases hc : vc c b < 0
    · rw [if_pos hc, if_pos (h2 hc (by omega))]
    · rw [if_neg hc, if_pos hb]
  · rw [if_neg hb]
    by_cases hc : vc c b < 0
    · rw [if_pos hc]
    · rw [if_neg hc, if_neg hb, if_neg (fun q => hc (h3 q (by omega)))]
theorem max_assoc (a b c : S24) : stepMax (stepMax a b) c = stepMax a (stepMax b c) := by
  have h1 := vc_anti a b
  have h2 := vc_anti b c
  have h3 := vc_anti a c
  have h4 := @vc_lt_le a b c
  have h5 := @vc_trans c b a
  unfold stepMax
  by_cases hb : vc b a > 0
  · rw [if_pos hb]
    by_cases hc : vc c b > 0
    · have : vc a c < 0 := h4 (by omega) (by omega)
      rw [if_pos hc, if_pos (by omega)]
    · rw [if_neg hc, if_pos hb]
  · rw [if_neg hb]
    by_cases hc : vc c b > 0
    · rw [if_pos hc]
    · have : vc c a ≤ 0 := h5 (by omega) (by omega)
      rw [if_neg hc, if_neg hb, if_neg (by omega)]
theorem fold_assoc (f : S24 → S24 → S24) (hf : ∀ a b c, f (f a b) c = f a (f b c)) : ∀ (t : List S24) (a v : S24), (v :: t).foldl f a = f a (t.foldl f v)
  | [], _, _ => rfl
  | w :: t, a, v => by
    have := fold_assoc f hf t a (f v w)
    simp only [List.foldl_cons] at this ⊢
    rw [hf, this]
theorem nn_append (l m : List S24) : nn (l ++ m) = nn l ++ nn m := by simp [nn]
theorem nil_or (l : List S24) : (nn l = [] ∧ (zMin l).f0 = 0 ∧ zMin l = z24 ∧ zMax l = z24) ∨ (nn l ≠ [] ∧ (zMin l).f0 ≠ 0) := by
  cases e : nn l with
  | nil =>
    left
    have h1 : zMin l = z24 := by unfold zMin; rw [e]
    have h2 : zMax l = z24 := by unfold zMax; rw [e]
    exact ⟨rfl, by rw [h1]; rfl, h1, h2⟩
  | cons v t =>
    right
    have h := (zMin_le (l := l) (v := v) (by rw [e]; exact List.mem_cons_self)).1
    exact ⟨by simp, (nn_mem.1 h).2⟩
def joinP (m1 x1 m2 x2 : S24) : S24 × S24 := if m2.f0 = 0 then (m1, x1) else if m1.f0 = 0 then (m2, x2) else (stepMin m1 m2, stepMax x1 x2)
theorem joinP_zone (l m : List S24) : joinP (zMin l) (zMax l) (zMin m) (zMax m) = (zMin (l ++ m), zMax (l ++ m)) := by
  have ha := nn_append l m
  unfold joinP
  rcases nil_or m with ⟨e, h0, _⟩ | ⟨e, h0⟩
  · rw [if_pos h0]
    have : nn (l ++ m) = nn l := by rw [ha, e, List.append_nil]
    unfold zMin zMax
    rw [this]
  · rw [if_neg h0]
    rcases nil_or l with ⟨e2, h02, _⟩ | ⟨e2, h02⟩
    · rw [if_pos h02]
      have : nn (l ++ m) = nn m := by rw [ha, e2, List.nil_append]
      unfold zMin zMax
      rw [this]
    · rw [if_neg h02]
      unfold zMin zMax
      rw [ha]
      cases e3 : nn l with
      | nil => exact absurd e3 e2
      | cons v t =>
        cases e4 : nn m with
        | nil => exact absurd e4 e
        | cons w s =>
          simp only [List.cons_append, List.foldl_append]
          rw [fold_assoc stepMin min_assoc, fold_assoc stepMax max_assoc]
theorem join_f (r1 n1 r2 n2 : Int) (m1 x1 m2 x2 : S24) : zone_Join.f r1 n1 m1.f0 m1.f1 m1.f2 x1.f0 x1.f1 x1.f2 r2 n2 m2.f0 m2.f1 m2.f2 x2.f0 x2.f1 x2.f2 =
    some (wrap64 (r1 + r2), wrap64 (n1 + n2), (joinP m1 x1 m2 x2).1.f0, (joinP m1 x1 m2 x2).1.f1, (joinP m1 x1 m2 x2).1.f2, (joinP m1 x1 m2 x2).2.f0, (joinP m1 x1 m2 x2).2.f1, (joinP m1 x1 m2 x2).2.f2) := by
  have h1 := vc_anti x1 x2
  unfold zone_Join.f joinP
  simp only [ahead_f, Option.bind_some]
  by_cases c2 : m2.f0 = 0
  · rw [if_pos c2, if_pos c2]
  · rw [if_neg c2, if_neg c2]
    by_cases c1 : m1.f0 = 0
    · rw [if_pos c1, if_pos c1]
    · rw [if_neg c1, if_neg c1]
      show (if decide (vc m2 m1 < 0) = true then (if decide (vc x1 x2 < 0) = true then _ else _) else (if decide (vc x1 x2 < 0) = true then _ else _)) = _
      unfold stepMin stepMax
      by_cases d1 : vc m2 m1 < 0
      · rw [if_pos (decide_eq_true d1), if_pos d1]
        by_cases d2 : vc x1 x2 < 0
        · rw [if_pos (decide_eq_true d2), if_pos (show vc x2 x1 > 0 by omega)]
        · rw [if_neg (by rw [decide_eq_true_iff]; exact d2), if_neg (show ¬ vc x2 x1 > 0 by omega)]
      · rw [if_neg (by rw [decide_eq_true_iff]; exact d1), if_neg d1]
        by_cases d2 : vc x1 x2 < 0
        · rw [if_pos (decide_eq_true d2), if_pos (show vc x2 x1 > 0 by omega)]
        · rw [if_neg (by rw [decide_eq_true_iff]; exact d2), if_neg (show ¬ vc x2 x1 > 0 by omega)]
theorem ends_part {m x m' x' a : S24} {op : Int} (h1 : vc m m' ≤ 0) (h2 : vc x' x ≤ 0) (h3 : vc m' x' ≤ 0) (h : endsP m x a op = true) : endsP m' x' a op = true := by
  unfold endsP at *
  by_cases c1 : op = 1
  · rw [if_pos c1] at h ⊢
    rw [Bool.or_eq_true, decide_eq_true_iff, decide_eq_true_iff] at h ⊢
    exact h.imp (fun q => vc_lt_le q h1) (fun q => vc_le_lt h2 q)
  rw [if_neg c1] at h ⊢
  by_cases c2 : op = 2
  · rw [if_pos c2] at h ⊢
    rw [Bool.and_eq_true, decide_eq_true_iff, decide_eq_true_iff] at h ⊢
    have a1 := vc_anti m a
    have a2 := vc_anti m' a
    have a3 := vc_anti x' a
    have b1 : vc m' a ≤ 0 := vc_trans h3 (vc_trans h2 (by omega : vc x a ≤ 0))
    have b2 : vc a m' ≤ 0 := vc_trans (by omega : vc a m ≤ 0) h1
    have b3 : vc x' a ≤ 0 := vc_trans h2 (by omega : vc x a ≤ 0)
    have b4 : vc a x' ≤ 0 := vc_trans b2 h3
    omega
  rw [if_neg c2] at h ⊢
  by_cases c3 : op = 3
  · rw [if_pos c3] at h ⊢
    rw [Bool.not_eq_true', decide_eq_false_iff_not] at h ⊢
    exact fun q => h (vc_le_lt h1 q)
  rw [if_neg c3] at h ⊢
  by_cases c4 : op = 4
  · rw [if_pos c4] at h ⊢
    rw [decide_eq_true_iff] at h ⊢
    exact vc_lt_le h h1
  rw [if_neg c4] at h ⊢
  by_cases c5 : op = 5
  · rw [if_pos c5] at h ⊢
    rw [Bool.not_eq_true', decide_eq_false_iff_not] at h ⊢
    exact fun q => h (vc_lt_le q h2)
  rw [if_neg c5] at h ⊢
  by_cases c6 : op = 6
  · rw [if_pos c6] at h ⊢
    rw [decide_eq_true_iff] at h ⊢
    exact vc_le_lt h2 h
  rw [if_neg c6]
theorem sub_nn {p b : List S24} (hs : ∀ v ∈ p, v ∈ b) : ∀ v ∈ nn p, v ∈ nn b := fun v hv => nn_mem.2 ⟨hs v (nn_mem.1 hv).1, (nn_mem.1 hv).2⟩
theorem bare_part {p b : List S24} (hs : ∀ v ∈ p, v ∈ b) (h : zNulls b ≥ b.length) : zNulls p ≥ p.length := by
  have hb : nn b = [] := List.length_eq_zero_iff.1 (by unfold zNulls at h; omega)
  have hp : nn p = [] := List.eq_nil_iff_forall_not_mem.2 (fun v hv => by have := sub_nn hs v hv; rw [hb] at this; cases this)
  unfold zNulls
  rw [hp]
  simp
theorem none_part {kind : Int} {p b : List S24} (hk : ∀ v ∈ b, v.f0 = kind ∨ v.f0 = 0) (hs : ∀ v ∈ p, v ∈ b) (hn : zNulls p ≤ zNulls b) {op : Int} {a : S24}
    (h : noneP b.length (zNulls b) (zMin b) (zMax b) op a = true) : noneP p.length (zNulls p) (zMin p) (zMax p) op a = true := by
  unfold noneP at *
  by_cases c7 : op = 7
  · rw [if_pos c7] at h ⊢
    rw [decide_eq_true_iff] at h ⊢
    omega
  rw [if_neg c7] at h ⊢
  by_cases c8 : op = 8
  · rw [if_pos c8] at h ⊢
    rw [decide_eq_true_iff] at h ⊢
    exact bare_part hs h
  rw [if_neg c8] at h ⊢
  by_cases cp : zNulls p ≥ p.length
  · rw [if_pos cp]
  · rw [if_neg cp]
    rw [if_neg (fun q => cp (bare_part hs q))] at h
    obtain ⟨v, hv⟩ : ∃ v, v ∈ nn p := List.exists_mem_of_ne_nil _ (fun q => cp (by unfold zNulls; rw [q]; simp))
    have kd : ∀ v ∈ nn b, v.f0 = kind := fun v hv => (hk v (nn_mem.1 hv).1).resolve_right (nn_mem.1 hv).2
    have hvb := sub_nn hs v hv
    obtain ⟨mp, _⟩ := zMin_le hv
    obtain ⟨xp, _⟩ := zMax_ge hv
    obtain ⟨mb, _⟩ := zMin_le hvb
    have e : (zMin p).f0 = (zMin b).f0 := by rw [kd _ (sub_nn hs _ mp), kd _ mb]
    rw [e]
    by_cases ca : (zMin b).f0 = a.f0
    · rw [if_pos ca] at h ⊢
      exact ends_part (zMin_le (sub_nn hs _ mp)).2 (zMax_ge (sub_nn hs _ xp)).2 (zMin_le xp).2 h
    · rw [if_neg ca]
theorem every_part {kind : Int} {p b : List S24} (hk : ∀ v ∈ b, v.f0 = kind ∨ v.f0 = 0) (hs : ∀ v ∈ p, v ∈ b) (hn : zNulls p ≤ zNulls b) (hp : p ≠ []) {op : Int} {a : S24}
    (h : everyP b.length (zNulls b) (zMin b) (zMax b) op a = true) : everyP p.length (zNulls p) (zMin p) (zMax p) op a = true := by
  unfold everyP at *
  by_cases c7 : op = 7
  · rw [if_pos c7] at h ⊢
    rw [decide_eq_true_iff] at h ⊢
    exact bare_part hs h
  rw [if_neg c7] at h ⊢
  by_cases c8 : op = 8
  · rw [if_pos c8] at h ⊢
    rw [decide_eq_true_iff] at h ⊢
    omega
  rw [if_neg c8] at h ⊢
  by_cases c0 : turnedOf op = 0
  · rw [if_pos c0] at h; cases h
  rw [if_neg c0] at h ⊢
  by_cases cb : zNulls b > 0
  · rw [if_pos cb] at h; cases h
  rw [if_neg cb] at h
  rw [if_neg (by omega)]
  by_cases ca : (zMin b).f0 = a.f0
  · rw [if_pos ca] at h
    have hl : 0 < p.length := List.length_pos_iff.2 hp
    obtain ⟨v, hv⟩ : ∃ v, v ∈ nn p := List.exists_mem_of_ne_nil _ (fun q => by unfold zNulls at hn cb; rw [q] at hn; simp only [List.length_nil] at hn; omega)
    have kd : ∀ v ∈ nn b, v.f0 = kind := fun v hv => (hk v (nn_mem.1 hv).1).resolve_right (nn_mem.1 hv).2
    have e : (zMin p).f0 = (zMin b).f0 := by rw [kd _ (sub_nn hs _ (zMin_le hv).1), kd _ (zMin_le (sub_nn hs v hv)).1]
    rw [if_pos (by rw [e]; exact ca)]
    exact none_part hk hs hn h
  · rw [if_neg ca] at h; cases h

theorem ZoneJoins : law14_ZoneJoins.Pure := by
  intro l m kind c op a0 a1 a2 hl hm _ _ _ _ _ _
  obtain ⟨hl1, hl2⟩ := sizes_of hl
  obtain ⟨hm1, hm2⟩ := sizes_of hm
  obtain ⟨k, hk⟩ : ∃ k : Nat, k = 2 * 140737488351232 + 5000 := ⟨_, rfl⟩
  refine ⟨k + 1, ?_⟩
  obtain ⟨b1, e1, f1⟩ := few_f l kind hl1 (k + 1) (by omega)
  obtain ⟨b2, e2, f2⟩ := few_f m kind hm1 (k + 1) (by omega)
  unfold law14_ZoneJoins.f
  rw [shown_true, e1, e2]
  simp only [Option.bind_some]
  cases b1 with
  | false => rw [if_neg (by decide), law14_ZoneJoins.j0, if_pos rfl]
  | true =>
    rw [if_pos rfl]
    cases b2 with
    | false => rw [law14_ZoneJoins.j0, if_pos (show (!false) = true from rfl)]
    | true =>
      obtain ⟨g1, g2⟩ := f1 rfl
      obtain ⟨g3, g4⟩ := f2 rfl
      have hz1 := zone_f l (by omega) 140737488351232 (by omega) hl2 k (by omega)
      have hz2 := zone_f m (by omega) 140737488351232 (by omega) hm2 k (by omega)
      have hz3 := zone_f (l ++ m) (by simp only [List.length_append]; omega) 140737488351232 (by omega) (fun v hv => (List.mem_append.1 hv).elim (hl2 v) (hm2 v)) k (by simp only [List.length_append]; omega)
      have hn1 := nn_le l
      have hn2 := nn_le m
      have hnn : (nn (l ++ m)).length = (nn l).length + (nn m).length := by rw [nn_append, List.length_append]
      have hzn : zNulls (l ++ m) = zNulls l + zNulls m := by unfold zNulls; rw [hnn, List.length_append]; omega
      have hq1 : 0 ≤ zNulls l := by unfold zNulls; omega
      have hq2 : 0 ≤ zNulls m := by unfold zNulls; omega
      have hq3 : zNulls l ≤ 500 := by unfold zNulls; omega
      have hq4 : zNulls m ≤ 500 := by unfold zNulls; omega
      have w1 : wrap64 ((l.length : Int) + (m.length : Int)) = ((l ++ m).length : Int) := by rw [List.length_append]; unfold wrap64; omega
      have w2 : wrap64 (zNulls l + zNulls m) = zNulls (l ++ m) := by rw [hzn]; unfold wrap64; omega
      have hk3 : ∀ v ∈ l ++ m, v.f0 = kind ∨ v.f0 = 0 := fun v hv => (List.mem_append.1 hv).elim (g2 v) (g4 v)
      have N1 := @none_part kind l (l ++ m) hk3 (fun v hv => List.mem_append_left _ hv) (by omega) op ⟨a0, a1, a2⟩
      have N2 := @none_part kind m (l ++ m) hk3 (fun v hv => List.mem_append_right _ hv) (by omega) op ⟨a0, a1, a2⟩
      have E1 := fun hp => @every_part kind l (l ++ m) hk3 (fun v hv => List.mem_append_left _ hv) (by omega) hp op ⟨a0, a1, a2⟩
      have en := fun (r n : Int) (p x : S24) => none_f r n p x ⟨a0, a1, a2⟩ c op
      have ee := fun (r n : Int) (p x : S24) => every_f r n p x ⟨a0, a1, a2⟩ c op
      simp only at en ee
      rw [law14_ZoneJoins.j0, if_neg (by decide), hz1, hz2]
      simp only [Option.bind_some, List.nil_append]
      rw [if_pos (by simp only [List.length_nil]; omega), if_pos (by omega), hz3]
      simp only [Option.bind_some]
      rw [join_f, joinP_zone, w1, w2]
      simp only [Option.bind_some, beq_self_eq_true, Bool.not_true, Bool.or_false]
      rw [if_neg (by decide), if_pos trivial]
      simp only [en, ee, Option.bind_some]
      have hlz : (l.length : Int) = 0 ∨ l ≠ [] := by
        by_cases q : l = []
        · left; rw [q]; rfl
        · exact Or.inr q
      generalize noneP ((l ++ m).length : Int) (zNulls (l ++ m)) (zMin (l ++ m)) (zMax (l ++ m)) op ⟨a0, a1, a2⟩ = nb at *
      generalize noneP (l.length : Int) (zNulls l) (zMin l) (zMax l) op ⟨a0, a1, a2⟩ = n1 at *
      generalize noneP (m.length : Int) (zNulls m) (zMin m) (zMax m) op ⟨a0, a1, a2⟩ = n2 at *
      generalize everyP ((l ++ m).length : Int) (zNulls (l ++ m)) (zMin (l ++ m)) (zMax (l ++ m)) op ⟨a0, a1, a2⟩ = eb at *
      generalize everyP (l.length : Int) (zNulls l) (zMin l) (zMax l) op ⟨a0, a1, a2⟩ = e0 at *
      have T : (if eb = true then (if (l.length : Int) = 0 then some true else some e0) else some true) = some true := by
        cases eb with
        | false => rfl
        | true =>
          rw [if_pos rfl]
          rcases hlz with q | q
          · rw [if_pos q]
          · rw [E1 q rfl]
            split <;> rfl
      cases nb with
      | false => rw [if_neg (by decide)]; exact T
      | true =>
        rw [if_pos rfl, N1 rfl, N2 rfl, if_pos rfl, if_pos rfl]
        exact T
end Go.Proofs.Ytnpfanmkjhpmlaa.Pure
