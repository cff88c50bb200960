/-
  Sorting, by hand: two neighbouring ranges rotated.
-/
import Derived.Test.YthpoeljnmdjjiaaStA
namespace Go.Proofs.Ythpoeljnmdjjiaa.Srt
open Go.RowKit Go.Proofs.YthpoeljnmdjjiaaW.PrintWords Go.Proofs.YthpoeljnmdjjiaaW.PrintLast Go.Proofs.YthpoeljnmdjjiaaW.PrintMore
set_option linter.unusedVariables false
set_option linter.unusedSimpArgs false

theorem w64i {x : Int} (h0 : -1000000000 ≤ x) (h1 : x ≤ 1000000000) : wrap64 x = x := by unfold wrap64; omega
theorem w64s {a b c : Nat} (h : b + c = a) (h2 : a ≤ 1000000) : wrap64 ((a : Int) - (b : Int)) = (c : Int) := by rw [w64i (by omega) (by omega)]; omega
theorem w64as {m j i c : Nat} (h : m + j = i + c) (h2 : m ≤ 1000000) (h3 : j ≤ 1000000) (h4 : i ≤ 1000000) : wrap64 (wrap64 ((m : Int) + (j : Int)) - (i : Int)) = (c : Int) := by
  rw [w64i (x := (m : Int) + (j : Int)) (by omega) (by omega), w64i (by omega) (by omega)]; omega
theorem getD_mid (A : List Nat) (x : Nat) (R : List Nat) : (A ++ x :: R).getD A.length 0 = x := by
  rw [List.getD_eq_getElem?_getD, List.getElem?_append_right (Nat.le_refl _), Nat.sub_self]; rfl
theorem set_mid (A : List Nat) (x y : Nat) (R : List Nat) : (A ++ x :: R).set A.length y = A ++ y :: R := by
  rw [List.set_append_right _ _ (Nat.le_refl _), Nat.sub_self]; rfl
theorem swl_mid (A : List Nat) (x : Nat) (B : List Nat) (y : Nat) (C : List Nat) : swl (A ++ x :: (B ++ y :: C)) A.length (A.length + 1 + B.length) = A ++ y :: (B ++ x :: C) := by
  unfold swl
  have e1 : A ++ x :: (B ++ y :: C) = (A ++ x :: B) ++ y :: C := by simp
  have l1 : (A ++ x :: B).length = A.length + 1 + B.length := by simp; omega
  have e2 : A ++ y :: (B ++ y :: C) = (A ++ y :: B) ++ y :: C := by simp
  have l2 : (A ++ y :: B).length = A.length + 1 + B.length := by simp; omega
  have g2 : (A ++ x :: (B ++ y :: C)).getD (A.length + 1 + B.length) 0 = y := by rw [e1, ← l1]; exact getD_mid _ _ _
  rw [getD_mid, g2, set_mid, e2, ← l2, set_mid]
  simp
theorem swr_step (P M Q : List Nat) (U V : List Nat) (h : U.length = V.length) : ∀ n, n ≤ U.length → swr (P ++ U ++ M ++ V ++ Q) P.length (P.length + U.length + M.length) n = P ++ V.take n ++ U.drop n ++ M ++ U.take n ++ V.drop n ++ Q := by
  intro n
  induction n with
  | zero => intro _; simp [swr]
  | succ n ih =>
    intro hn
    have hu : n < U.length := by omega
    have hv : n < V.length := by omega
    rw [swr, ih (by omega), List.drop_eq_getElem_cons hu, List.drop_eq_getElem_cons hv, List.take_succ_eq_append_getElem hu, List.take_succ_eq_append_getElem hv]
    have := swl_mid (P ++ V.take n) U[n] (U.drop (n + 1) ++ M ++ U.take n) V[n] (V.drop (n + 1) ++ Q)
    have l1 : (P ++ V.take n).length = P.length + n := by rw [List.length_append, List.length_take]; omega
    have l2 : (U.drop (n + 1) ++ M ++ U.take n).length = (U.length - (n + 1)) + M.length + n := by rw [List.length_append, List.length_append, List.length_drop, List.length_take]; omega
    rw [l1, l2, show P.length + n + 1 + (U.length - (n + 1) + M.length + n) = P.length + U.length + M.length + n by omega] at this
    have e1 : P ++ V.take n ++ U[n] :: U.drop (n + 1) ++ M ++ U.take n ++ V[n] :: V.drop (n + 1) ++ Q = P ++ V.take n ++ U[n] :: (U.drop (n + 1) ++ M ++ U.take n ++ V[n] :: (V.drop (n + 1) ++ Q)) := by simp only [List.append_assoc, List.cons_append]
    rw [e1, this]
    simp only [List.append_assoc, List.cons_append, List.nil_append]
theorem swr_blocks (P M Q U V : List Nat) (h : U.length = V.length) : swr (P ++ U ++ M ++ V ++ Q) P.length (P.length + U.length + M.length) U.length = P ++ V ++ M ++ U ++ Q := by
  rw [swr_step P M Q U V h U.length (Nat.le_refl _)]
  rw [List.take_of_length_le (show V.length ≤ U.length by omega), List.drop_eq_nil_of_le (Nat.le_refl _), List.take_of_length_le (Nat.le_refl _), List.drop_eq_nil_of_le (show V.length ≤ U.length by omega)]
  simp

set_option maxHeartbeats 1000000 in
set_option maxRecDepth 100000 in
theorem rotate_calls (H : Nat → Hd) (w0 : World) (g cap : Nat) (P X Y Q : List Nat) (n a m b : Nat) (fv : Value) (w : World) (hn : (P ++ X ++ Y ++ Q).length = n) (hl : n ≤ 1000000) (ha : a = P.length) (hm : m = P.length + X.length) (hb : b = P.length + X.length + Y.length) (hX : 0 < X.length) (hY : 0 < Y.length)
    (h : SR w0 g H (P ++ X ++ Y ++ Q) w) :
    Calls Try.prog 78 #[.slice (some ⟨g, 0, none⟩) n cap, .int .i64 a, .int .i64 m, .int .i64 b, fv] w fun e w' => e = .returned (.tuple #[]) ∧ SR w0 g H (P ++ Y ++ X ++ Q) w' := by
  have hlen : P.length + X.length + Y.length + Q.length = n := by rw [← hn]; simp only [List.length_append]
  have H0 := Aside0.mk h
  have HT : Aside0 (∃ T, T = P ++ Y ++ X ++ Q) := ⟨_, rfl⟩
  obtain ⟨T, hT⟩ := HT.out
  have HXY : Aside0 (P.length + X.length = m ∧ X.length + Y.length ≤ n ∧ P.length + X.length + Y.length + Q.length = n) := ⟨by omega, by omega, by omega⟩
  have w1 : wrap64 ((m : Int) - (a : Int)) = (X.length : Int) := by rw [w64i (by omega) (by omega)]; omega
  have w2 : wrap64 ((b : Int) - (m : Int)) = (Y.length : Int) := by rw [w64i (by omega) (by omega)]; omega
  have HE : Aside0 (P ++ Y ++ X ++ Q = T) := ⟨hT.symm⟩
  rw [← hT]
  have HXP := Aside0.mk hX
  have HYP := Aside0.mk hY
  clear h HT hn hT hX hY ha hm hb hlen
  go_enter Try.func78, Try.ntmps78
  go_wp2
  go_loopw [10, 11] (fun v10 v11 wr => ∃ (P X Y Q : List Nat) (p i j : Nat), v10 = .int .i64 i ∧ v11 = .int .i64 j ∧ Aside0 (P.length = p ∧ X.length = i ∧ Y.length = j ∧ p + i + j + Q.length = n) ∧ p + i = m ∧ p + i + j ≤ n ∧ 0 < i ∧ 0 < j ∧ Aside0 (SR w0 g H (P ++ X ++ Y ++ Q) wr) ∧ Aside0 (P ++ Y ++ X ++ Q = T)) (fun v10 v11 _ => (intOf v10).toNat + (intOf v11).toNat)
  case atStart => exact ⟨P, X, Y, Q, P.length, X.length, Y.length, congrArg (Value.int .i64) w1, congrArg (Value.int .i64) w2, ⟨rfl, rfl, rfl, HXY.out.2.2⟩, HXY.out.1, by have := HXY.out.2.2; omega, HXP.out, HYP.out, H0, HE⟩
  case round =>
    clear H0 HE HXY HXP HYP w1 w2
    obtain ⟨P, X, Y, Q, p, i, j, rfl, rfl, HL, hpm, hpn, hi0, hj0, HS, HE⟩ := hrel
    obtain ⟨l1, l2, l3, l4⟩ := HL.out
    have hlen : (P ++ X ++ Y ++ Q).length = n := by simp only [List.length_append]; omega
    rcases Nat.lt_trichotomy i j with hij | hij | hij
    · have q1 : decide ((i : Int) ≠ (j : Int)) = true := decide_eq_true (by omega)
      have q2 : ((i : Int) == (j : Int)) = false := by rw [beq_eq_false_iff_ne]; omega
      have q3 : decide ((i : Int) > (j : Int)) = false := decide_eq_false (by omega)
      have q4 : decide ((j : Int) < (i : Int)) = false := decide_eq_false (by omega)
      have q5 : decide (j < i) = false := decide_eq_false (by omega)
      have q6 : (i == j) = false := by rw [beq_eq_false_iff_ne]; omega
      have E1 : Aside0 ((m : Int) - (i : Int) = (p : Int)) := ⟨by omega⟩
      have E2 : Aside0 ((m : Int) + (j : Int) - (i : Int) = ((p + i + (j - i) : Nat) : Int)) := ⟨by omega⟩
      have E3 : Aside0 ((j : Int) - (i : Int) = ((j - i : Nat) : Int)) := ⟨by omega⟩
      have hY : Y = Y.take (j - i) ++ Y.drop (j - i) := (List.take_append_drop _ _).symm
      obtain ⟨Y1, Y2, hY1, hY2, hYY⟩ : ∃ Y1 Y2, Y1.length = j - i ∧ Y2.length = i ∧ Y = Y1 ++ Y2 := ⟨_, _, by rw [List.length_take]; omega, by rw [List.length_drop]; omega, hY⟩
      have hb := swr_blocks P Y1 Q X Y2 (by omega)
      rw [l1, l2, hY1] at hb
      have hS := HS.out
      have eL : P ++ X ++ Y ++ Q = P ++ X ++ Y1 ++ Y2 ++ Q := by rw [hYY]; simp only [List.append_assoc]
      rw [eL] at hS hlen
      have hc := swapRange_calls H w0 g cap (P ++ X ++ Y1 ++ Y2 ++ Q) p (p + i + (j - i)) i fv wr (by omega) (by omega) (by omega) hS
      rw [hb, hlen, ← E1.out, ← E2.out] at hc
      have HC := Aside0.mk hc
      have HE2 : Aside0 (P ++ Y1 ++ Y2 ++ (X ++ Q) = T) := ⟨by rw [← HE.out, hYY]; simp only [List.append_assoc]⟩
      have HL2 : Aside0 (P.length = p ∧ Y2.length = i ∧ Y1.length = j - i ∧ p + i + (j - i) + (X ++ Q).length = n) := ⟨l1, hY2, hY1, by rw [List.length_append]; omega⟩
      clear hc hS eL hb hY hYY hY1 hY2 E1 E2 l1 l2 l3 l4 hlen HL HE HS
      go_wp2_with (go_at_call 90; refine HC.out.mono ?_; rintro e w5 ⟨rfl, hs5⟩; have HS5 := Aside0.mk hs5; clear hs5)
      go_roundw
      case rel => exact ⟨P, Y2, Y1, X ++ Q, p, i, j - i, by first | rfl | go_num, congrArg (Value.int .i64) E3.out, HL2, hpm, by omega, hi0, by omega, ⟨by have := HS5.out; simpa only [List.append_assoc] using this⟩, HE2⟩
      case measure => have e3 := E3.out; simp only [intOf, e3]; clear e3; omega
    · subst hij
      have q1 : decide ((i : Int) ≠ (i : Int)) = false := decide_eq_false (by omega)
      have E1 : Aside0 ((m : Int) - (i : Int) = (p : Int)) := ⟨by omega⟩
      have hb := swr_blocks P [] Q X Y (by omega)
      rw [l1, l2] at hb
      simp only [List.append_nil, List.length_nil, Nat.add_zero] at hb
      have hc := swapRange_calls H w0 g cap (P ++ X ++ Y ++ Q) p (p + i) i fv wr (by omega) (by omega) (by omega) HS.out
      rw [hb, hlen, HE.out, ← E1.out, hpm] at hc
      have HC := Aside0.mk hc
      clear hc hb l1 l2 l3 l4 hlen HL HE HS E1
      go_wp2_with (go_at_call 90; refine HC.out.mono ?_; rintro e w5 ⟨rfl, hs5⟩; have HS5 := Aside0.mk hs5; clear hs5)
      go_end0
      exact ⟨rfl, HS5.out⟩
    · have q1 : decide ((i : Int) ≠ (j : Int)) = true := decide_eq_true (by omega)
      have q2 : ((i : Int) == (j : Int)) = false := by rw [beq_eq_false_iff_ne]; omega
      have q3 : decide ((i : Int) > (j : Int)) = true := decide_eq_true (by omega)
      have q4 : decide ((j : Int) < (i : Int)) = true := decide_eq_true (by omega)
      have q5 : decide (j < i) = true := decide_eq_true (by omega)
      have q6 : (i == j) = false := by rw [beq_eq_false_iff_ne]; omega
      have E1 : Aside0 ((m : Int) - (i : Int) = (p : Int)) := ⟨by omega⟩
      have E3 : Aside0 ((i : Int) - (j : Int) = ((i - j : Nat) : Int)) := ⟨by omega⟩
      have hX : X = X.take j ++ X.drop j := (List.take_append_drop _ _).symm
      obtain ⟨X1, X2, hX1, hX2, hXX⟩ : ∃ X1 X2, X1.length = j ∧ X2.length = i - j ∧ X = X1 ++ X2 := ⟨_, _, by rw [List.length_take]; omega, by rw [List.length_drop]; omega, hX⟩
      have hb := swr_blocks P X2 Q X1 Y (by omega)
      rw [l1, hX1, hX2] at hb
      have hS := HS.out
      have eL : P ++ X ++ Y ++ Q = P ++ X1 ++ X2 ++ Y ++ Q := by rw [hXX]; simp only [List.append_assoc]
      rw [eL] at hS hlen
      have hc := swapRange_calls H w0 g cap (P ++ X1 ++ X2 ++ Y ++ Q) p (p + j + (i - j)) j fv wr (by omega) (by omega) (by omega) hS
      rw [hb, hlen, ← E1.out, show p + j + (i - j) = m by omega] at hc
      have HC := Aside0.mk hc
      have HE2 : Aside0 (P ++ Y ++ X1 ++ X2 ++ Q = T) := ⟨by rw [← HE.out, hXX]; simp only [List.append_assoc]⟩
      have HL2 : Aside0 ((P ++ Y).length = p + j ∧ X2.length = i - j ∧ X1.length = j ∧ p + j + (i - j) + j + Q.length = n) := ⟨by rw [List.length_append]; omega, hX2, hX1, by omega⟩
      clear hc hS eL hb hX hXX hX1 hX2 E1 l1 l2 l3 l4 hlen HL HE HS
      go_wp2_with (go_at_call 90; refine HC.out.mono ?_; rintro e w5 ⟨rfl, hs5⟩; have HS5 := Aside0.mk hs5; clear hs5)
      go_roundw
      case rel => exact ⟨P ++ Y, X2, X1, Q, p + j, i - j, j, congrArg (Value.int .i64) E3.out, by first | rfl | go_num, HL2, by omega, by omega, by omega, hj0, HS5, HE2⟩
      case measure => have e3 := E3.out; simp only [intOf, e3]; clear e3; omega
end Go.Proofs.Ythpoeljnmdjjiaa.Srt
