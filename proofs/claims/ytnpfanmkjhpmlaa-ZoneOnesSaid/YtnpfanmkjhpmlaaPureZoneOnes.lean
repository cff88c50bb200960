/-
  Of one value alone a zone says just what holds: an atom that may be is of none, or of all: for every input. (ZoneOnes)
-/
import Derived.Test.YtnpfanmkjhpmlaaPZonx17
import Derived.Test.YtnpfanmkjhpmlaaZonB
namespace Go.Proofs.Ytnpfanmkjhpmlaa.Pure
open Go.RowKit Go.Proofs.Ytnpfanmkjhpmlaa.PZon Go.Proofs.YtnpfanmkjhpmlaaW.PrintWords Go.Proofs.YtnpfanmkjhpmlaaW.PrintLast
open Go.Proofs.Ytnpfanmkjhpmlaa.Hand (U cl ck cl_U u64 u64_U cmpI valCmp strCmp turnedOf)

theorem empty_bool (s : ByteArray) : (s.toList == ([] : List UInt8)) = decide (s.size = 0) := by
  rw [ByteArray.toList_eq, Bool.eq_iff_iff, beq_iff_eq, decide_eq_true_iff]
  cases s with | mk d => simp [ByteArray.size]
theorem rmay_some (k i : Int) (s : ByteArray) : ∃ b, ref05_May.f k i s = some b := by
  have := rclean_f (u64_U i)
  unfold u64 at this
  unfold ref05_May.f
  rw [this]
  simp only [Option.bind_some]
  repeat' split
  all_goals exact ⟨_, rfl⟩
/-- What an atom that may be is like. -/
theorem atom_f (c op k i : Int) (s : ByteArray) (n : Nat) (hn : 1 < n) : ∃ b, ref13_May.f n c op k i s = some b ∧ (b = true → 1 ≤ op ∧ op ≤ 8 ∧ (op < 7 → k ≠ 0)) := by
  obtain ⟨n, rfl⟩ : ∃ m, n = m + 1 := ⟨n - 1, by omega⟩
  unfold ref13_May.f
  simp only [ref13_May.j0]
  obtain ⟨b, hb⟩ := rmay_some k i s
  rw [hb]
  by_cases h1 : c < 0
  · rw [if_pos h1]; exact ⟨false, rfl, by simp⟩
  · rw [if_neg h1]
    by_cases h2 : op < 1
    · rw [if_pos h2]; exact ⟨false, rfl, by simp⟩
    · rw [if_neg h2]
      by_cases h3 : op > 8
      · rw [decide_eq_true h3]; exact ⟨false, rfl, by simp⟩
      · rw [decide_eq_false h3, if_neg (by simp)]
        by_cases h4 : op ≥ 7
        · rw [if_pos h4]; exact ⟨_, rfl, fun _ => ⟨by omega, by omega, fun h => by omega⟩⟩
        · rw [if_neg h4]
          by_cases h5 : k = 0
          · rw [if_pos h5]; exact ⟨_, rfl, by simp⟩
          · rw [if_neg h5]; exact ⟨_, rfl, fun _ => ⟨by omega, by omega, fun _ => h5⟩⟩
theorem ones_nn {v : S24} (h : v.f0 ≠ 0) : nn [v] = [v] := by simp [nn, h]
theorem ones_z {v : S24} (h : v.f0 = 0) : nn [v] = [] := by simp [nn, h]
/-- Of one value. -/
theorem one_says (v a : S24) (op : Int) (h1 : 1 ≤ op) (h8 : op ≤ 8) (hk : op < 7 → v.f0 ≠ 0 → v.f0 = a.f0) :
    noneP (([v] : List S24).length : Int) (zNulls [v]) (zMin [v]) (zMax [v]) op a = !holdsP op a v ∧ everyP (([v] : List S24).length : Int) (zNulls [v]) (zMin [v]) (zMax [v]) op a = holdsP op a v := by
  by_cases hz : v.f0 = 0
  · have e1 : zNulls [v] = 1 := by unfold zNulls; rw [ones_z hz]; rfl
    rw [e1, show (([v] : List S24).length : Int) = 1 from rfl]
    unfold noneP everyP holdsP
    rw [if_pos hz, decide_eq_true hz]
    by_cases h7 : op = 7
    · rw [if_pos h7, if_pos h7, if_pos h7]; exact ⟨rfl, rfl⟩
    · rw [if_neg h7, if_neg h7, if_neg h7]
      by_cases h8 : op = 8
      · rw [if_pos h8, if_pos h8, if_pos h8]; exact ⟨rfl, rfl⟩
      · rw [if_neg h8, if_neg h8, if_neg h8, if_pos (by omega)]
        refine ⟨rfl, ?_⟩
        split
        · rfl
        · rw [if_pos (by omega)]
  · have e1 : zNulls [v] = 0 := by unfold zNulls; rw [ones_nn hz]; rfl
    have e2 : zMin [v] = v := by unfold zMin; rw [ones_nn hz]; rfl
    have e3 : zMax [v] = v := by unfold zMax; rw [ones_nn hz]; rfl
    have hsome : ∀ v' ∈ [v], v'.f0 = v.f0 ∨ v'.f0 = 0 := fun v' hv => .inl (by rw [List.mem_singleton.1 hv])
    have key : op < 7 → endsP v v a op = !asksP op (vc v a) := by
      intro h6
      have hanti := vc_anti v a
      have : op = 1 ∨ op = 2 ∨ op = 3 ∨ op = 4 ∨ op = 5 ∨ op = 6 := by omega
      rcases this with rfl | rfl | rfl | rfl | rfl | rfl
      all_goals
        simp only [endsP, asksP]
        rw [Bool.eq_iff_iff]
        simp
      all_goals omega
    rw [e1, e2, e3, show (([v] : List S24).length : Int) = 1 from rfl]
    by_cases h7 : op = 7
    · subst h7
      unfold noneP everyP holdsP
      rw [if_pos rfl, if_pos rfl, if_pos rfl, decide_eq_false hz]
      exact ⟨rfl, rfl⟩
    · by_cases h8 : op = 8
      · subst h8
        unfold noneP everyP holdsP
        rw [if_neg h7, if_neg h7, if_neg h7, if_pos rfl, if_pos rfl, if_pos rfl, decide_eq_false hz]
        exact ⟨rfl, rfl⟩
      · have hka := hk (by omega) hz
        have hh : holdsP op a v = asksP op (vc v a) := by
          unfold holdsP
          rw [if_neg h7, if_neg h8, if_neg hz, if_neg (by simp [hka])]
        have hn : ∀ o : Int, 1 ≤ o → o < 7 → noneP 1 0 v v o a = !asksP o (vc v a) := by
          intro o ho1 ho7
          unfold noneP
          rw [if_neg (by omega), if_neg (by omega), if_neg (by omega), if_pos hka]
          have hanti := vc_anti v a
          have : o = 1 ∨ o = 2 ∨ o = 3 ∨ o = 4 ∨ o = 5 ∨ o = 6 := by omega
          rcases this with rfl | rfl | rfl | rfl | rfl | rfl
          all_goals
            simp only [endsP, asksP]
            rw [Bool.eq_iff_iff]
            simp
          all_goals omega
        refine ⟨by rw [hn op h1 (by omega), hh], ?_⟩
        have ht : turnedOf op ≠ 0 ∧ 1 ≤ turnedOf op ∧ turnedOf op < 7 := by
          unfold turnedOf
          repeat' split
          all_goals omega
        have h2 := (turned_asks ht.1 (vc v a)).1
        unfold everyP
        rw [if_neg h7, if_neg h8, if_neg ht.1, if_neg (by omega), if_pos hka, hn _ ht.2.1 ht.2.2, hh, h2]
theorem ZoneOnes : law14_ZoneOnes.Pure := by
  intro k0 i0 s0 c op ka ia sa h1 h2 h3 h4 h5 h6 h7 h8
  refine ⟨2 * s0.size + 2 * s0.size + 100, ?_⟩
  generalize hK : 2 * s0.size + 2 * s0.size + 100 = K
  obtain ⟨K, rfl⟩ : ∃ m, K = m + 1 := ⟨K - 1, by omega⟩
  have hz := zone_f [(⟨k0, i0, s0⟩ : S24)] (by simp) s0.size h3 (by simp) (K + 1) (by simp only [List.length_singleton]; omega)
  have hh := holds_f (⟨ka, ia, sa⟩ : S24) (⟨k0, i0, s0⟩ : S24) c op h3 (K + 1) (by show 2 * s0.size + 3 < K + 1; omega)
  obtain ⟨b, hm, hb⟩ := atom_f c op ka ia sa (K + 1) (by omega)
  unfold law14_ZoneOnes.f
  rw [shown_true]
  simp only [Option.bind_some]
  rw [hz]
  simp only [Option.bind_some]
  rw [show ref13_Holds.f (K + 1) c op ka ia sa k0 i0 s0 = some (holdsP op ⟨ka, ia, sa⟩ ⟨k0, i0, s0⟩) from hh]
  simp only [Option.bind_some]
  rw [hm]
  simp only [Option.bind_some]
  simp only [law14_ZoneOnes.j0, if_true]
  have fin : 1 ≤ op → op ≤ 8 → (op < 7 → k0 ≠ 0 → k0 = ka) → ∀ (x1 x2 x3 : Int) (x4 : ByteArray) (x5 x6 : Int) (x7 : ByteArray) (x0 : Int),
      x0 = (([(⟨k0, i0, s0⟩ : S24)] : List S24).length : Int) → x1 = zNulls [(⟨k0, i0, s0⟩ : S24)] → x2 = (zMin [(⟨k0, i0, s0⟩ : S24)]).f0 → x3 = (zMin [(⟨k0, i0, s0⟩ : S24)]).f1 → x4 = (zMin [(⟨k0, i0, s0⟩ : S24)]).f2 →
      x5 = (zMax [(⟨k0, i0, s0⟩ : S24)]).f0 → x6 = (zMax [(⟨k0, i0, s0⟩ : S24)]).f1 → x7 = (zMax [(⟨k0, i0, s0⟩ : S24)]).f2 →
      ((zone_None.f x0 x1 x2 x3 x4 x5 x6 x7 c op ka ia sa).bind fun t223 => if (t223 == !holdsP op ⟨ka, ia, sa⟩ ⟨k0, i0, s0⟩) = true then (zone_Every.f x0 x1 x2 x3 x4 x5 x6 x7 c op ka ia sa).bind fun t224 => some (t224 == holdsP op ⟨ka, ia, sa⟩ ⟨k0, i0, s0⟩) else some false) = some true := by
    rintro o1 o2 o3 x1 x2 x3 x4 x5 x6 x7 x0 rfl rfl rfl rfl rfl rfl rfl rfl
    obtain ⟨q1, q2⟩ := one_says (⟨k0, i0, s0⟩ : S24) (⟨ka, ia, sa⟩ : S24) op o1 o2 o3
    have n1 := none_f (([(⟨k0, i0, s0⟩ : S24)] : List S24).length : Int) (zNulls [(⟨k0, i0, s0⟩ : S24)]) (zMin [(⟨k0, i0, s0⟩ : S24)]) (zMax [(⟨k0, i0, s0⟩ : S24)]) (⟨ka, ia, sa⟩ : S24) c op
    have n2 := every_f (([(⟨k0, i0, s0⟩ : S24)] : List S24).length : Int) (zNulls [(⟨k0, i0, s0⟩ : S24)]) (zMin [(⟨k0, i0, s0⟩ : S24)]) (zMax [(⟨k0, i0, s0⟩ : S24)]) (⟨ka, ia, sa⟩ : S24) c op
    rw [q1] at n1
    rw [q2] at n2
    rw [show zone_None.f _ _ _ _ _ _ _ _ c op ka ia sa = _ from n1, show zone_Every.f _ _ _ _ _ _ _ _ c op ka ia sa = _ from n2]
    simp
  cases b with
  | false => simp
  | true =>
    obtain ⟨o1, o2, o3⟩ := hb rfl
    rw [if_pos rfl]
    by_cases c0 : k0 = 0
    · rw [if_pos c0, if_neg (by simp)]
      exact fin o1 o2 (fun _ q => absurd c0 q) _ _ _ _ _ _ _ _ rfl rfl rfl rfl rfl rfl rfl rfl
    · rw [if_neg c0]
      by_cases c7 : op < 7
      · rw [if_pos c7]
        by_cases ck : k0 = ka
        · rw [show (k0 != ka) = false by simpa using ck, if_neg (by simp)]
          exact fin o1 o2 (fun _ _ => ck) _ _ _ _ _ _ _ _ rfl rfl rfl rfl rfl rfl rfl rfl
        · rw [show (k0 != ka) = true by simpa using ck, if_pos rfl]
      · rw [if_neg c7, if_neg (by simp)]
        exact fin o1 o2 (fun q => absurd q c7) _ _ _ _ _ _ _ _ rfl rfl rfl rfl rfl rfl rfl rfl
end Go.Proofs.Ytnpfanmkjhpmlaa.Pure
