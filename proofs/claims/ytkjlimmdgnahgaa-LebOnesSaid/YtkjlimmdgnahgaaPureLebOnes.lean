/-
  Bytes that are a number are just the ones that are put for it; no beginning of these is one: for every input. (LebOnes)
-/
import Derived.Test.YtkjlimmdgnahgaaPLecx4
import Derived.Test.YtkjlimmdgnahgaaLebA
namespace Go.Proofs.Ytkjlimmdgnahgaa.Pure
open Go.RowKit Go.Proofs.Ytkjlimmdgnahgaa.PLec Go.Proofs.YtkjlimmdgnahgaaW.PrintWords Go.Proofs.YtkjlimmdgnahgaaW.PrintLast Go.Proofs.Ytkjlimmdgnahgaa.Hand

theorem LebOnes : law02_LebOnes.Pure := by
  intro l n c hm hl hw hn hc
  have hn := wf_u64_ hn
  have hc := wf_u8_ hc
  have hB : ∀ x ∈ l, 0 ≤ x ∧ x < 256 := fun x hx => wf_u8_ (hw x hx)
  refine ⟨1, ?_⟩
  unfold law02_LebOnes.f law02_shown.f leb_Get.f leb_Put.f
  rw [show lebGet l = some (getOut l) from if_pos hB, lebPut_eq hn]
  simp only [Option.bind_some]
  have hp := putL9_len (n := n)
  have hp0 := List.length_pos_iff.mpr (putL_ne 9 n)
  have hcut := num_cut 9 0 n 0
  have hpr := putL9_range hn
  generalize putL 9 n = p at *
  have hk : 0 ≤ (getOut l).2.1 ∧ (getOut l).2.1 ≤ l.length ∧ ((getOut l).2.2 = 0 → 0 < (getOut l).2.1 ∧ (0 ≤ (getOut l).1 ∧ (getOut l).1 < 18446744073709551616) ∧ putL 9 (getOut l).1 = l.take (getOut l).2.1.toNat) ∧
      ((getOut l).2.2 ≠ 0 → (getOut l).2.1 = 0 ∧ (getOut l).1 = 0) := by
    have h1 := numGo_len l 0 0
    have h2 := numGo_range l 0 0
    have h3 := fun (y : Int) (t : List Int) => put_num0 (l := l) (t := t) (y := y) hB
    have h4 : ∀ e, numGo l 0 0 = .inl e → e ≠ 0 := by
      have : ∀ (l : List Int) (i : Nat) (m e : Int), numGo l i m = .inl e → e ≠ 0 := by
        intro l
        induction l with
        | nil => intro i m e h; simp [numGo] at h; omega
        | cons c l ih =>
          intro i m e h
          simp only [numGo] at h
          split at h
          · injection h with h; omega
          · split at h
            · cases h
            · exact ih _ _ _ h
      exact this l 0 0
    unfold getOut
    generalize numGo l 0 0 = o at *
    rcases o with e | ⟨y, t⟩
    · have := h4 e rfl
      simp only
      exact ⟨by omega, by omega, fun h => absurd h this, fun _ => by simp⟩
    · have hlt := h1 y t rfl
      have hr := h2 y t hB (by omega) (by omega) (by decide) rfl
      have he := h3 y t rfl
      have hlen : l.length = (putL 9 y).length + t.length := by rw [he, List.length_append]
      simp only
      refine ⟨by omega, by omega, fun _ => ⟨by omega, hr, ?_⟩, fun h => absurd rfl h⟩
      rw [show ((l.length : Int) - (t.length : Int)).toNat = (putL 9 y).length by omega]
      rw [he, List.take_left']
      rfl
  generalize getOut l = g at *
  obtain ⟨x, k, e⟩ := g
  simp only at hk ⊢
  obtain ⟨hk0, hk1, hk2, hk3⟩ := hk
  rw [if_neg (by omega), if_neg (by omega), if_neg (by omega), show decide (k > (l.length : Int)) = false by simp; omega]
  have hw8 : wrap64 c = c := by unfold wrap64; omega
  have hmod : Int.tmod c (p.length : Int) = c % (p.length : Int) := Int.tmod_eq_emod_of_nonneg hc.1
  have hmr := Int.emod_lt_of_pos c (show (0 : Int) < p.length by omega)
  have hmn := Int.emod_nonneg c (show (p.length : Int) ≠ 0 by omega)
  unfold law02_LebOnes.j0
  dsimp only
  rw [hw8, hmod]
  generalize c % (p.length : Int) = j at *
  rw [if_neg (by simp), if_neg (by omega), if_pos hmn, if_pos (by omega)]
  unfold leb_Get.f
  have hj := hcut j.toNat rfl hn.1 (by omega)
  have hg : lebGet (p.take j.toNat) = some (0, 0, 3) := by
    unfold lebGet
    rw [if_pos (fun x hx => hpr x (List.mem_of_mem_take hx))]
    unfold getOut
    rw [hj]
  rw [hg]
  simp only [Option.bind_some, if_true]
  by_cases he : e = 0
  · obtain ⟨h1, h2, h3⟩ := hk2 he
    rw [if_pos he, if_pos (by omega)]
    unfold leb_Put.f
    rw [lebPut_eq h2]
    simp only [Option.bind_some]
    rw [if_pos (by omega), if_pos (by omega), if_pos (by rw [h3])]
  · obtain ⟨h1, h2⟩ := hk3 he
    rw [if_neg he, if_pos h1, h2]
    rfl
end Go.Proofs.Ytkjlimmdgnahgaa.Pure
