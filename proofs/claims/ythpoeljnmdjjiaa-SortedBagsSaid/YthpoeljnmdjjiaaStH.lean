/-
  Sorting, by hand: slices.stableCmpFunc and slices.SortStableFunc.
-/
import Derived.Test.YthpoeljnmdjjiaaStI
namespace Go.Proofs.Ythpoeljnmdjjiaa.Srt
open Go.RowKit Go.Proofs.YthpoeljnmdjjiaaW.PrintWords Go.Proofs.YthpoeljnmdjjiaaW.PrintLast Go.Proofs.YthpoeljnmdjjiaaW.PrintMore
set_option linter.unusedVariables false
set_option linter.unusedSimpArgs false
variable {cf : Nat → Nat → Int}

set_option maxHeartbeats 1000000 in
set_option maxRecDepth 100000 in
/-- Of no elements nothing is done. -/
theorem insertion_none (H : Nat → Hd) (w0 : World) (g cap : Nat) (f : Nat) (cb : Array Value) (l : List Nat) (n a : Nat) (w : World) (hl : a ≤ 1000000) (h : SR w0 g H l w) :
    Calls Try.prog 59 #[.slice (some ⟨g, 0, none⟩) n cap, .int .i64 a, .int .i64 a, .func (.func f) #[] cb] w fun e w' => e = .returned (.tuple #[]) ∧ SR w0 g H l w' := by
  have H0 := Aside0.mk h
  clear h
  go_enter Try.func59, Try.ntmps59
  go_wp2
  go_loopw [8] (fun v8 wr => v8 = .int .i64 ((a : Int) + 1) ∧ Aside0 (SR w0 g H l wr)) (fun _ _ => 0)
  case atStart => exact ⟨rfl, H0⟩
  case round =>
    clear H0
    obtain ⟨rfl, HS⟩ := hrel
    have q1 : decide ((a : Int) + 1 < (a : Int)) = false := decide_eq_false (by omega)
    go_wp2
    go_end0
    exact ⟨rfl, HS.out⟩

set_option maxHeartbeats 1000000 in
set_option maxRecDepth 100000 in
theorem stable_calls (C : Cf cf) (H : Nat → Hd) (w0 : World) (g cap : Nat) (f : Nat) (cb : Array Value) (ef : ∀ args w, (callFunc f args).run Try.prog w = .ok (.enter f args) w) (hcmp : CmpOK w0 g H f cb cf) (n : Nat) (hl : n ≤ 100000)
    (base : List Nat) (hbn : base.length = n) (hbp : base.Pairwise (· < ·)) (w : World) (h : SR w0 g H base w) :
    Calls Try.prog 43 #[.slice (some ⟨g, 0, none⟩) n cap, .int .i64 n, .func (.func f) #[] cb] w fun e w' => e = .returned (.tuple #[]) ∧ ∃ Z, Srd cf Z ∧ Z.Perm base ∧ SR w0 g H Z w' := by
  have H0 := Aside0.mk h
  have HCMP := Aside0.mk hcmp
  have HBN := Aside0.mk hbn
  have HBP := Aside0.mk hbp
  clear h hcmp hbn hbp
  go_enter Try.func43, Try.ntmps43
  go_wp2
  go_loopw [7, 8] (fun v7 v8 wr => ∃ (a b : Nat) (P Pb Rb : List Nat), v7 = .int .i64 a ∧ v8 = .int .i64 b ∧ Aside0 (b = a + 20) ∧ a ≤ n ∧ b ≤ n + 20 ∧ Aside0 (P.length = a ∧ a + Rb.length = n ∧ base = Pb ++ Rb) ∧ Aside0 (Dn cf 20 Pb P) ∧ Aside0 (SR w0 g H (P ++ Rb) wr)) (fun v7 _ _ => n - (intOf v7).toNat)
  case atStart => exact ⟨0, 20, [], [], base, rfl, rfl, ⟨rfl⟩, Nat.zero_le _, by omega, ⟨rfl, by rw [Nat.zero_add]; exact HBN.out, rfl⟩, ⟨Dn.nil⟩, H0⟩
  case round =>
    clear H0
    obtain ⟨a, b, P, Pb, Rb, rfl, rfl, HAB, han, hb20, HL, HD, HS⟩ := hrel
    have hab := HAB.out
    by_cases hlt : b ≤ n
    · have q1 : decide ((b : Int) ≤ (n : Int)) = true := decide_eq_true (by omega)
      have q2 : decide (b ≤ n) = true := decide_eq_true hlt
      obtain ⟨l1, l2, l3⟩ := HL.out
      have lX : (Rb.take 20).length = 20 := by rw [List.length_take]; omega
      have lQ : (Rb.drop 20).length = n - b := by rw [List.length_drop]; omega
      have eR : Rb = Rb.take 20 ++ Rb.drop 20 := (List.take_append_drop _ _).symm
      generalize Rb.take 20 = X at lX eR
      generalize Rb.drop 20 = Q at lQ eR
      have hxp : X.Pairwise (· < ·) := by
        have := HBP.out
        rw [l3, eR] at this
        exact (List.pairwise_append.1 (List.pairwise_append.1 this).2.1).1
      obtain ⟨hs, hp⟩ := isort_srd C X [] srd_nil hxp (fun s h => nomatch h)
      rw [List.nil_append] at hp
      have hS := HS.out
      rw [eR, ← List.append_assoc] at hS
      have hc := insertion_calls H w0 g cap f cb cf ef HCMP.out P X Q n a b wr (by simp only [List.length_append]; omega) (by omega) l1.symm (by omega) (by omega) hS
      obtain ⟨Z, hZ⟩ : ∃ Z, isort (ltc cf) [] X = Z := ⟨_, rfl⟩
      rw [hZ] at hc hs hp
      have HC := Aside0.mk hc
      have HD2 : Aside0 (Dn cf 20 (Pb ++ X) (P ++ Z)) := ⟨HD.out.snoc lX hs hp⟩
      have HL2 : Aside0 ((P ++ Z).length = b ∧ b + Q.length = n ∧ base = Pb ++ X ++ Q) := ⟨by rw [List.length_append, hp.length_eq]; omega, by omega, by rw [l3, eR, List.append_assoc]⟩
      clear hc hZ hs hp hS hxp l1 l2 l3 lX lQ eR HL HD HS hab
      go_wp2_with (go_at_call 59; refine HC.out.mono ?_; rintro e w5 ⟨rfl, hs5⟩; have HS5 := Aside0.mk hs5; clear hs5)
      go_roundw
      case rel => exact ⟨b, b + 20, P ++ Z, Pb ++ X, Q, by first | rfl | go_num, by first | rfl | go_num, ⟨rfl⟩, hlt, by omega, HL2, HD2, HS5⟩
      case measure => have := HAB.out; simp only [intOf]; omega
    · have q1 : decide ((b : Int) ≤ (n : Int)) = false := decide_eq_false (by omega)
      have q2 : decide (b ≤ n) = false := decide_eq_false hlt
      have hab := HAB.out
      have hC : ∀ w, SR w0 g H (P ++ Rb) w → Calls Try.prog 59 #[.slice (some ⟨g, 0, none⟩) n cap, .int .i64 a, .int .i64 n, .func (.func f) #[] cb] w fun e w' => e = .returned (.tuple #[]) ∧ ∃ l, BS cf 20 base l ∧ SR w0 g H l w' := by
        obtain ⟨l1, l2, l3⟩ := HL.out
        intro w hw
        rcases Nat.eq_zero_or_pos Rb.length with h0 | h0
        · have e : Rb = [] := List.eq_nil_of_length_eq_zero h0
          have : a = n := by omega
          subst this
          refine (insertion_none H w0 g cap f cb _ _ a w (by omega) hw).mono ?_
          rintro e2 w' ⟨h1, h2⟩
          exact ⟨h1, P ++ Rb, by rw [l3, e]; exact HD.out [] [] BS.nil, h2⟩
        · have hxp : Rb.Pairwise (· < ·) := by
            have := HBP.out
            rw [l3] at this
            exact (List.pairwise_append.1 this).2.1
          obtain ⟨hs, hp⟩ := isort_srd C Rb [] srd_nil hxp (fun s h => nomatch h)
          rw [List.nil_append] at hp
          refine (insertion_calls H w0 g cap f cb cf ef HCMP.out P Rb [] n a n w (by simp only [List.length_append, List.append_nil]; omega) (by omega) l1.symm (by omega) h0 (by rw [List.append_nil]; exact hw)).mono ?_
          rintro e2 w' ⟨h1, h2⟩
          rw [List.append_nil] at h2
          exact ⟨h1, _, by rw [l3]; exact HD.out _ _ (.last _ _ (by omega) hs hp), h2⟩
      have HC := Aside0.mk (hC wr HS.out)
      clear hC HD HS HL hab HAB
      go_wp2_with (go_at_call 59; refine HC.out.mono ?_; rintro e w5 ⟨rfl, l, hb5, hs5⟩; have HB5 := Aside0.mk hb5; have HS5 := Aside0.mk hs5; clear hs5 hb5 HC)
      go_loopw [6] (fun v6 wr => ∃ (k : Nat) (l : List Nat), v6 = .int .i64 k ∧ 20 ≤ k ∧ k ≤ 2 * n + 20 ∧ Aside0 (BS cf k base l) ∧ Aside0 (SR w0 g H l wr)) (fun v6 _ => n - (intOf v6).toNat)
      case atStart => exact ⟨20, l, rfl, Nat.le_refl _, by omega, HB5, HS5⟩
      case round =>
        clear HB5 HS5 q1 q2 hlt
        obtain ⟨k, l, rfl, hk20, hkn, HB, HS⟩ := hrel
        by_cases hlt : k < n
        · have q1 : decide ((k : Int) < (n : Int)) = true := decide_eq_true (by omega)
          have q2 : decide (k < n) = true := decide_eq_true hlt
          have HL0 : Aside0 (([] : List Nat).length = 0 ∧ 0 + base.length = n ∧ base = [] ++ base) := ⟨rfl, by rw [HBN.out]; omega, rfl⟩
          have HD0 : Aside0 (Dn cf (2 * k) ([] : List Nat) []) := ⟨Dn.nil⟩
          have HS0 : Aside0 (SR w0 g H ([] ++ l) wr) := HS
          have H2 : Aside0 (2 * k = 0 + 2 * k) := ⟨by omega⟩
          clear HS
          go_wp2
          go_loopw [7, 8] (fun v7 v8 wr => ∃ (a b : Nat) (P Pb R Rb : List Nat), v7 = .int .i64 a ∧ v8 = .int .i64 b ∧ Aside0 (b = a + 2 * k) ∧ a ≤ n ∧ b ≤ n + 2 * k ∧ Aside0 (P.length = a ∧ a + Rb.length = n ∧ base = Pb ++ Rb) ∧ Aside0 (Dn cf (2 * k) Pb P) ∧ Aside0 (BS cf k Rb R) ∧ Aside0 (SR w0 g H (P ++ R) wr)) (fun v7 _ _ => n - (intOf v7).toNat)
          case atStart => exact ⟨0, 2 * k, [], [], l, base, rfl, by first | rfl | go_num, H2, Nat.zero_le _, by omega, HL0, HD0, HB, HS0⟩
          case round =>
            clear HB HS0 HL0 HD0 H2
            obtain ⟨a, b, P, Pb, R, Rb, rfl, rfl, HAB, han, hb2, HL, HD, HB, HS⟩ := hrel
            by_cases hlt2 : b ≤ n
            · have q3 : decide ((b : Int) ≤ (n : Int)) = true := decide_eq_true (by omega)
              have q4 : decide (b ≤ n) = true := decide_eq_true hlt2
              have hab := HAB.out
              obtain ⟨l1, l2, l3⟩ := HL.out
              obtain ⟨X1, R1, Z1, S1, e1, e2, x1, s1, p1, hb1⟩ := HB.out.first (by omega)
              have lR1 : R1.length = n - a - k := by have := congrArg List.length e1; rw [List.length_append] at this; omega
              obtain ⟨X2, R2, Z2, S2, e3, e4, x2, s2, p2, hb2'⟩ := hb1.first (by omega)
              have lR2 : R2.length = n - b := by have := congrArg List.length e3; rw [List.length_append] at this; omega
              have hxy : ∀ x ∈ Z1, ∀ y ∈ Z2, x < y := by
                have := HBP.out
                rw [l3, e1, e3] at this
                exact lt_parts this p1 p2
              have hS : SR w0 g H (P ++ Z1 ++ Z2 ++ S2) wr := by have := HS.out; rw [e2, e4] at this; simpa only [List.append_assoc] using this
              have z1 := p1.length_eq
              have z2 := p2.length_eq
              have lS2 := hb2'.len
              have hc := symMerge_all C H w0 g cap f cb ef HCMP.out n (by omega) n P Z1 Z2 S2 a (a + k) b wr (by simp only [List.length_append]; omega) l1.symm (by omega) (by omega) (by omega) (by omega) (by omega) s1 s2 hxy hS
              have HC := Aside0.mk hc
              have HP : Aside0 (∀ Z, Mrg cf Z1 Z2 Z → Dn cf (2 * k) (Pb ++ (X1 ++ X2)) (P ++ Z) ∧ (P ++ Z).length = b) := ⟨fun Z hm => by
                obtain ⟨h1, h2⟩ := hm.block p1 p2
                have h3 := h2.length_eq
                rw [List.length_append] at h3
                exact ⟨HD.out.snoc (by rw [List.length_append]; omega) h1 h2, by rw [List.length_append]; omega⟩⟩
              have HB2 := Aside0.mk hb2'
              have HL2 : Aside0 (b + R2.length = n ∧ base = Pb ++ (X1 ++ X2) ++ R2) := ⟨by omega, by rw [l3, e1, e3]; simp only [List.append_assoc]⟩
              clear hc hS hxy l1 l2 l3 lR1 lR2 lS2 z1 z2 x1 x2 s1 s2 p1 p2 hb1 hb2' e1 e2 e3 e4 HL HD HB HS hab
              go_wp2_with (go_at_call 60; refine HC.out.mono ?_; rintro e w6 ⟨rfl, Z, hm6, hs6⟩; have HM6 := Aside0.mk hm6; have HS6 := Aside0.mk hs6; clear hs6 hm6 HC)
              go_roundw
              case rel => exact ⟨b, b + 2 * k, P ++ Z, Pb ++ (X1 ++ X2), S2, R2, by first | rfl | go_num, by first | rfl | go_num, ⟨rfl⟩, hlt2, by omega, ⟨(HP.out Z HM6.out).2, HL2.out⟩, ⟨(HP.out Z HM6.out).1⟩, HB2, HS6⟩
              case measure => have := HAB.out; simp only [intOf]; omega
            · have q3 : decide ((b : Int) ≤ (n : Int)) = false := decide_eq_false (by omega)
              have q4 : decide (b ≤ n) = false := decide_eq_false hlt2
              have hab := HAB.out
              by_cases hlt3 : a + k < n
              · have q5 : decide ((a : Int) + (k : Int) < (n : Int)) = true := decide_eq_true (by omega)
                have q6 : decide (a + k < n) = true := decide_eq_true hlt3
                obtain ⟨l1, l2, l3⟩ := HL.out
                obtain ⟨X1, R1, Z1, S1, e1, e2, x1, s1, p1, hb1⟩ := HB.out.first (by omega)
                have lR1 : R1.length = n - a - k := by have := congrArg List.length e1; rw [List.length_append] at this; omega
                obtain ⟨s2, p2⟩ := hb1.one (by omega) (by omega)
                have hxy : ∀ x ∈ Z1, ∀ y ∈ S1, x < y := by
                  have := HBP.out
                  rw [l3, e1] at this
                  exact lt_parts (B := []) (by rw [List.append_nil]; exact this) p1 p2
                have hS : SR w0 g H (P ++ Z1 ++ S1 ++ []) wr := by have := HS.out; rw [e2] at this; simpa only [List.append_assoc, List.append_nil] using this
                have z1 := p1.length_eq
                have z2 := p2.length_eq
                have hc := symMerge_all C H w0 g cap f cb ef HCMP.out n (by omega) n P Z1 S1 [] a (a + k) n wr (by simp only [List.length_append, List.append_nil]; omega) l1.symm (by omega) (by omega) (by omega) (by omega) (by omega) s1 s2 hxy hS
                have HC := Aside0.mk hc
                have HP : Aside0 (∀ Z, Mrg cf Z1 S1 Z → BS cf (2 * k) base (P ++ Z ++ [])) := ⟨fun Z hm => by
                  obtain ⟨h1, h2⟩ := hm.block p1 p2
                  rw [List.append_nil, l3, e1]
                  exact HD.out _ _ (.last _ _ (by rw [List.length_append]; omega) h1 h2)⟩
                clear hc hS hxy l1 l2 l3 lR1 z1 z2 x1 s1 s2 p1 p2 hb1 e1 e2 HL HD HB HS hab
                go_wp2_with (go_at_call 60; refine HC.out.mono ?_; rintro e w6 ⟨rfl, Z, hm6, hs6⟩; have HM6 := Aside0.mk hm6; have HS6 := Aside0.mk hs6; clear hs6 hm6 HC)
                go_roundw
                case rel => exact ⟨2 * k, _, by first | rfl | go_num, by omega, by omega, ⟨HP.out Z HM6.out⟩, HS6⟩
                case measure => simp only [intOf]; omega
              · have q5 : decide ((a : Int) + (k : Int) < (n : Int)) = false := decide_eq_false (by omega)
                have q6 : decide (a + k < n) = false := decide_eq_false hlt3
                have HB7 : Aside0 (BS cf (2 * k) base (P ++ R)) := ⟨by
                  obtain ⟨l1, l2, l3⟩ := HL.out
                  obtain ⟨s2, p2⟩ := HB.out.one (by omega) (by omega)
                  rw [l3]
                  exact HD.out _ _ (.last _ _ (by omega) s2 p2)⟩
                clear HD HL HB hab HAB
                go_wp2
                go_roundw
                case rel => exact ⟨2 * k, _, by first | rfl | go_num, by omega, by omega, HB7, HS⟩
                case measure => simp only [intOf]; omega
        · have q1 : decide ((k : Int) < (n : Int)) = false := decide_eq_false (by omega)
          have q2 : decide (k < n) = false := decide_eq_false hlt
          have HE : Aside0 (Srd cf l ∧ l.Perm base) := ⟨HB.out.one (by rw [HBN.out]; omega) (by omega)⟩
          clear HB
          go_wp2
          go_end0
          exact ⟨rfl, l, HE.out.1, HE.out.2, HS.out⟩

set_option maxRecDepth 100000 in
theorem sortStable_calls (C : Cf cf) (H : Nat → Hd) (w0 : World) (g cap : Nat) (f : Nat) (cb : Array Value) (ef : ∀ args w, (callFunc f args).run Try.prog w = .ok (.enter f args) w) (hcmp : CmpOK w0 g H f cb cf) (n : Nat) (hl : n ≤ 100000)
    (base : List Nat) (hbn : base.length = n) (hbp : base.Pairwise (· < ·)) (w : World) (h : SR w0 g H base w) :
    Calls Try.prog 26 #[.slice (some ⟨g, 0, none⟩) n cap, .func (.func f) #[] cb] w fun e w' => e = .returned (.tuple #[]) ∧ ∃ Z, Srd cf Z ∧ Z.Perm base ∧ SR w0 g H Z w' := by
  have HC := Aside0.mk (stable_calls C H w0 g cap f cb ef hcmp n hl base hbn hbp w h)
  clear hcmp hbn hbp h
  go_enter Try.func26, Try.ntmps26
  go_wp2_with (go_at_call 43; refine HC.out.mono ?_; rintro e w6 ⟨rfl, hs6⟩; have HS6 := Aside0.mk hs6; clear hs6 HC)
  go_end0
  exact ⟨rfl, HS6.out⟩

end Go.Proofs.Ythpoeljnmdjjiaa.Srt
