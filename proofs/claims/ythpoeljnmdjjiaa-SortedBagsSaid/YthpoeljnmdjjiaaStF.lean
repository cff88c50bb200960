/-
  Sorting, by hand: slices.symMergeCmpFunc with two or more on both sides; and all of it.
-/
import Derived.Test.YthpoeljnmdjjiaaStQ
import Derived.Outline
namespace Go.Proofs.Ythpoeljnmdjjiaa.Srt
open Go.RowKit Go.Proofs.YthpoeljnmdjjiaaW.PrintWords Go.Proofs.YthpoeljnmdjjiaaW.PrintLast Go.Proofs.YthpoeljnmdjjiaaW.PrintMore
set_option linter.unusedVariables false
set_option linter.unusedSimpArgs false
variable {cf : Nat → Nat → Int}

/-- What symMerge is asked to do, of rows of N elements or fewer. -/
def SymOK (cf : Nat → Nat → Int) (H : Nat → Hd) (w0 : World) (g cap : Nat) (f : Nat) (cb : Array Value) (n N : Nat) : Prop :=
  ∀ (P X Y Q : List Nat) (a m b : Nat) (w : World), (P ++ X ++ Y ++ Q).length = n → a = P.length → m = P.length + X.length → b = P.length + X.length + Y.length → 0 < X.length → 0 < Y.length → X.length + Y.length ≤ N → Srd cf X → Srd cf Y → (∀ x ∈ X, ∀ y ∈ Y, x < y) →
    SR w0 g H (P ++ X ++ Y ++ Q) w → Calls Try.prog 60 #[.slice (some ⟨g, 0, none⟩) n cap, .int .i64 a, .int .i64 m, .int .i64 b, .func (.func f) #[] cb] w fun e w' => e = .returned (.tuple #[]) ∧ ∃ Z, Mrg cf X Y Z ∧ SR w0 g H (P ++ Z ++ Q) w'

set_option maxHeartbeats 1000000 in
set_option maxRecDepth 100000 in
theorem symMerge_mid (C : Cf cf) (H : Nat → Hd) (w0 : World) (g cap : Nat) (f : Nat) (cb : Array Value) (ef : ∀ args w, (callFunc f args).run Try.prog w = .ok (.enter f args) w) (hcmp : CmpOK w0 g H f cb cf) (N n : Nat) (hl : n ≤ 1000000) (hrec : SymOK cf H w0 g cap f cb n N)
    (P X Y Q : List Nat) (a m b : Nat) (w : World) (hn : (P ++ X ++ Y ++ Q).length = n) (ha : a = P.length) (hm : m = P.length + X.length) (hb : b = P.length + X.length + Y.length) (hX : 1 < X.length) (hY : 1 < Y.length) (hN : X.length + Y.length = N + 1) (hs : Srd cf X) (hs2 : Srd cf Y) (hx : ∀ x ∈ X, ∀ y ∈ Y, x < y)
    (h : SR w0 g H (P ++ X ++ Y ++ Q) w) :
    Calls Try.prog 60 #[.slice (some ⟨g, 0, none⟩) n cap, .int .i64 a, .int .i64 m, .int .i64 b, .func (.func f) #[] cb] w fun e w' => e = .returned (.tuple #[]) ∧ ∃ Z, Mrg cf X Y Z ∧ SR w0 g H (P ++ Z ++ Q) w' := by
  have hlen : P.length + X.length + Y.length + Q.length = n := by rw [← hn]; simp only [List.length_append]
  have hbn : a + 1 < m ∧ m + 1 < b ∧ b ≤ n := by omega
  have HPL : Aside0 (P.length = a ∧ a + X.length = m ∧ m + Y.length = b) := ⟨by omega⟩
  have HNN := Aside0.mk hlen
  have H0 := Aside0.mk h
  have HCMP := Aside0.mk hcmp
  have HREC := Aside0.mk hrec
  have q0 : ((m : Int) - (a : Int) == 1) = false := by rw [beq_eq_false_iff_ne]; omega
  have q1 : ((b : Int) - (m : Int) == 1) = false := by rw [beq_eq_false_iff_ne]; omega
  obtain ⟨mid, hmid⟩ : ∃ mid : Nat, ((a : Int) + (b : Int)) / 2 = (mid : Int) := ⟨(a + b) / 2, by omega⟩
  have hmm : a < mid ∧ mid < b := by omega
  clear h hn hcmp hlen hrec hm ha hb
  by_cases hmc : mid < m
  · have q2 : decide ((m : Int) > (mid : Int)) = true := decide_eq_true (by omega)
    have q3 : decide ((mid : Int) < (m : Int)) = true := decide_eq_true (by omega)
    go_enter Try.func60, Try.ntmps60
    go_wp2
    have HI0 : Aside0 (∀ c, (mid + m - b) ≤ c → c < (mid + m - b) → Ah cf (X.getD (c - a) 0) (Y.getD (mid - 1 - c) 0)) := ⟨fun c _ _ => by omega⟩
    have HJ0 : Aside0 (∀ c, mid ≤ c → c < mid → Ah cf (Y.getD (mid - 1 - c) 0) (X.getD (c - a) 0)) := ⟨fun c _ _ => by omega⟩
    go_loopw [20, 21] (fun v20 v21 wr => ∃ (i j : Nat), v20 = .int .i64 i ∧ v21 = .int .i64 j ∧ (mid + m - b) ≤ i ∧ i ≤ j ∧ j ≤ mid ∧ Aside0 (SR w0 g H (P ++ X ++ Y ++ Q) wr) ∧ Aside0 (∀ c, (mid + m - b) ≤ c → c < i → Ah cf (X.getD (c - a) 0) (Y.getD (mid - 1 - c) 0)) ∧ Aside0 (∀ c, j ≤ c → c < mid → Ah cf (Y.getD (mid - 1 - c) 0) (X.getD (c - a) 0))) (fun v20 v21 _ => (intOf v21).toNat - (intOf v20).toNat)
    case atStart => exact ⟨(mid + m - b), mid, by first | rfl | (congr 1; omega), rfl, Nat.le_refl _, by omega, Nat.le_refl _, H0, HI0, HJ0⟩
    case round =>
      clear H0 HI0 HJ0
      obtain ⟨i, j, rfl, rfl, hai, hij, hjb, HS, HI, HJ⟩ := hrel
      by_cases hlt : i < j
      · have q4 : decide ((i : Int) < (j : Int)) = true := decide_eq_true (by omega)
        have q5 : decide (i < j) = true := decide_eq_true hlt
        obtain ⟨h, hh⟩ : ∃ h : Nat, ((i : Int) + (j : Int)) / 2 = (h : Int) := ⟨(i + j) / 2, by omega⟩
        have hih : i ≤ h ∧ h < j := by omega
        obtain ⟨q, hq⟩ : ∃ q : Nat, (mid : Int) + (m : Int) - 1 - (h : Int) = (q : Int) := ⟨mid + m - 1 - h, by omega⟩
        obtain ⟨cx, hcx⟩ : ∃ c, h = a + c := ⟨h - a, by omega⟩
        obtain ⟨cy, hcy⟩ : ∃ c, mid - 1 - h = c := ⟨_, rfl⟩
        have hqm : q = m + cy := by omega
        have hcX : cx < X.length := by have := HPL.out; omega
        have hcY : cy < Y.length := by have := HPL.out; omega
        have gx : (P ++ X ++ Y ++ Q).getD h 0 = X.getD cx 0 := by
          have e : P ++ X ++ Y ++ Q = P ++ X ++ (Y ++ Q) := by simp only [List.append_assoc]
          rw [hcx, e]; exact getD_X P X _ a cx HPL.out.1 hcX
        have gy : (P ++ X ++ Y ++ Q).getD q 0 = Y.getD cy 0 := by
          have l : (P ++ X).length = m := by rw [List.length_append, HPL.out.1]; exact HPL.out.2.1
          rw [hqm]; exact getD_X (P ++ X) Y Q m cy l hcY
        have hxy : X.getD cx 0 < Y.getD cy 0 := hx _ (by rw [List.getD_eq_getElem?_getD, List.getElem?_eq_getElem hcX]; exact List.getElem_mem _) _ (by rw [List.getD_eq_getElem?_getD, List.getElem?_eq_getElem hcY]; exact List.getElem_mem _)
        have hlen2 : h < (P ++ X ++ Y ++ Q).length ∧ q < (P ++ X ++ Y ++ Q).length := by
          have e1 := HPL.out
          simp only [List.length_append]
          omega
        have hXs := srd_at hs hcX
        have hYs := srd_at hs2 hcY
        obtain ⟨x, hxc⟩ : ∃ x, X.getD cx 0 = x := ⟨_, rfl⟩
        obtain ⟨y, hyc⟩ : ∃ y, Y.getD cy 0 = y := ⟨_, rfl⟩
        have HXC := Aside0.mk hxc
        have HYC := Aside0.mk hyc
        rw [hxc] at gx hxy hXs
        rw [hyc] at gy hxy hYs
        clear hxc hyc
        obtain ⟨x1, x2, x3, hHx⟩ : ∃ a b c, H x = (a, b, c) := ⟨_, _, _, rfl⟩
        obtain ⟨y1, y2, y3, hHy⟩ : ∃ a b c, H y = (a, b, c) := ⟨_, _, _, rfl⟩
        have hfacts : ∀ w1, Below wr.heap.size wr w1 → SR w0 g H (P ++ X ++ Y ++ Q) w1 ∧ w1.cell? ⟨g, q, none⟩ = some (.slice y1 y2 y3) ∧ w1.cell? ⟨g, h, none⟩ = some (.slice x1 x2 x3) := fun w1 hb => by
          have h1 := HS.out.later hb
          have c1 := h1.cell q hlen2.2
          have c2 := h1.cell h hlen2.1
          rw [gy, hHy] at c1
          rw [gx, hHx] at c2
          exact ⟨h1, c1, c2⟩
        have HF := Aside0.mk hfacts
        have HC : Aside0 (∀ w1, Below wr.heap.size wr w1 → Calls Try.prog f (#[.slice y1 y2 y3, .slice x1 x2 x3] ++ cb) w1 fun e w' => e = .returned (.int .i64 (cf y x)) ∧ Below w1.heap.size w1 w') := ⟨fun w1 hb => by
          have h1 := (hfacts w1 hb).1
          have := HCMP.out y x w1 h1.below h1.keep
          simpa only [hHx, hHy, hdr] using this⟩
        have p1 : (0 ≤ (h : Int)) = True := eq_true (by omega)
        have p2 : ((h : Int) < (n : Int)) = True := eq_true (by omega)
        have p3 : (0 ≤ (q : Int)) = True := eq_true (by omega)
        have p4 : ((q : Int) < (n : Int)) = True := eq_true (by omega)
        have p5 : (h < n) = True := eq_true (by omega)
        have p6 : (q < n) = True := eq_true (by omega)
        have p7 : IntKind.i64.wrap (q : Int) = (q : Int) := wrap_nat (by omega)
        have HXS := Aside0.mk hXs
        have HYS := Aside0.mk hYs
        have Hcx := Aside0.mk hcx
        have Hcy := Aside0.mk hcy
        have Hxy := Aside0.mk hxy
        have HD := Aside0.mk (below_drew (Below.refl wr.heap.size wr))
        have HCX := Aside0.mk hcX
        have HCY := Aside0.mk hcY
        clear gx gy hlen2 hXs hYs hfacts HS hcx hcy hxy hcX hcY hqm
        go_upto_region 35 with (fail)
        clear hh
        refine start_ (n := 14) (S := fun w' => (w'.cell? ⟨g, q, none⟩ = some (.slice y1 y2 y3) ∧ w'.cell? ⟨g, h, none⟩ = some (.slice x1 x2 x3))) (ds := []) #[false, false, false, false, false, false, false, false, false, false, false, false, false, false] (by kernel_rfl) rfl rfl ((HF.out wr.drew HD.out).2) (fun hHeld => ?_)
        refine pure_ (i := 0) (N := some 158) (v := ?_) (a' := ?_) #[true, false, false, false, false, false, false, false, false, false, false, false, false, false] rfl rfl (by kernel_rfl) (fun _ _ _ h => h) (Or.inl ⟨by rfl, ?_⟩) ?_ ?_
        rotate_left
        · intro w'
          go_simp
          with_reducible rfl
        rotate_left
        · simp only [Act.put, List.setIfInBounds_toArray, List.set_cons_zero, List.set_cons_succ]
          rfl
        refine pure_ (i := 1) (N := some 159) (v := ?_) (a' := ?_) #[true, true, false, false, false, false, false, false, false, false, false, false, false, false] rfl rfl (by kernel_rfl) (fun _ _ _ h => h) (Or.inl ⟨by rfl, ?_⟩) ?_ ?_
        rotate_left
        · intro w'
          go_simp
          with_reducible rfl
        rotate_left
        · simp only [Act.put, List.setIfInBounds_toArray, List.set_cons_zero, List.set_cons_succ]
          rfl
        refine pure_ (i := 2) (N := some 160) (v := ?_) (a' := ?_) #[true, true, true, false, false, false, false, false, false, false, false, false, false, false] rfl rfl (by kernel_rfl) (fun _ _ _ h => h) (Or.inl ⟨by rfl, ?_⟩) ?_ ?_
        rotate_left
        · intro w'
          go_simp
          with_reducible rfl
        rotate_left
        · simp only [Act.put, List.setIfInBounds_toArray, List.set_cons_zero, List.set_cons_succ]
          rfl
        refine pure_ (i := 3) (N := some 161) (v := ?_) (a' := ?_) #[true, true, true, true, false, false, false, false, false, false, false, false, false, false] rfl rfl (by kernel_rfl) (fun _ _ _ h => h) (Or.inl ⟨by rfl, ?_⟩) ?_ ?_
        rotate_left
        · intro w'
          go_simp
          with_reducible rfl
        rotate_left
        · simp only [Act.put, List.setIfInBounds_toArray, List.set_cons_zero, List.set_cons_succ]
          rfl
        refine pure_ (i := 4) (N := some 162) (v := ?_) (a' := ?_) #[true, true, true, true, true, false, false, false, false, false, false, false, false, false] rfl rfl (by kernel_rfl) (fun _ _ _ h => h) (Or.inl ⟨by rfl, ?_⟩) ?_ ?_
        rotate_left
        · intro w'
          go_simp
          with_reducible rfl
        rotate_left
        · simp only [Act.put, List.setIfInBounds_toArray, List.set_cons_zero, List.set_cons_succ]
          rfl
        refine pure_ (i := 5) (N := some 163) (v := ?_) (a' := ?_) #[true, true, true, true, true, true, false, false, false, false, false, false, false, false] rfl rfl (by kernel_rfl) (fun _ _ _ h => h) (Or.inl ⟨by rfl, ?_⟩) ?_ ?_
        rotate_left
        · intro w'
          go_simp
          with_reducible rfl
        rotate_left
        · simp only [Act.put, List.setIfInBounds_toArray, List.set_cons_zero, List.set_cons_succ]
          rfl
        refine take_ (i := 6) (N := some 164) (v := ?_) (a' := ?_) #[true, true, true, true, true, true, true, false, false, false, false, false, false, false] rfl rfl (by kernel_rfl) (fun _ _ _ h => h) (Or.inl ⟨by rfl, ?_⟩) hHeld ?_ ?_
        rotate_left
        · rintro w' ⟨s0, s1⟩
          go_simp
          with_reducible rfl
        rotate_left
        · simp only [Act.put, List.setIfInBounds_toArray, List.set_cons_zero, List.set_cons_succ]
          rfl
        refine pure_ (i := 7) (N := some 165) (v := ?_) (a' := ?_) #[true, true, true, true, true, true, true, true, false, false, false, false, false, false] rfl rfl (by kernel_rfl) (fun _ _ _ h => h) (Or.inl ⟨by rfl, ?_⟩) ?_ ?_
        rotate_left
        · intro w'
          go_simp
          with_reducible rfl
        rotate_left
        · simp only [Act.put, List.setIfInBounds_toArray, List.set_cons_zero, List.set_cons_succ]
          rfl
        refine pure_ (i := 8) (N := some 166) (v := ?_) (a' := ?_) #[true, true, true, true, true, true, true, true, true, false, false, false, false, false] rfl rfl (by kernel_rfl) (fun _ _ _ h => h) (Or.inl ⟨by rfl, ?_⟩) ?_ ?_
        rotate_left
        · intro w'
          go_simp
          with_reducible rfl
        rotate_left
        · simp only [Act.put, List.setIfInBounds_toArray, List.set_cons_zero, List.set_cons_succ]
          rfl
        refine pure_ (i := 9) (N := some 167) (v := ?_) (a' := ?_) #[true, true, true, true, true, true, true, true, true, true, false, false, false, false] rfl rfl (by kernel_rfl) (fun _ _ _ h => h) (Or.inl ⟨by rfl, ?_⟩) ?_ ?_
        rotate_left
        · intro w'
          go_simp
          with_reducible rfl
        rotate_left
        · simp only [Act.put, List.setIfInBounds_toArray, List.set_cons_zero, List.set_cons_succ]
          rfl
        refine take_ (i := 10) (N := some 168) (v := ?_) (a' := ?_) #[true, true, true, true, true, true, true, true, true, true, true, false, false, false] rfl rfl (by kernel_rfl) (fun _ _ _ h => h) (Or.inl ⟨by rfl, ?_⟩) hHeld ?_ ?_
        rotate_left
        · rintro w' ⟨s0, s1⟩
          go_simp
          with_reducible rfl
        rotate_left
        · simp only [Act.put, List.setIfInBounds_toArray, List.set_cons_zero, List.set_cons_succ]
          rfl
        refine one_ (i := 11) (N := some 169) #[true, true, true, true, true, true, true, true, true, true, true, true, false, false] rfl rfl (by kernel_rfl) (by decide) (fun K hK => ?_)
        refine call_ f (#[.slice y1 y2 y3, .slice x1 x2 x3] ++ cb) (by rfl) rfl ?hrun ?_
        case hrun => have he := ef; unfold execOp; simp [resolve, Deferred.ofValue, invoke, Act.eval, he]
        (with_reducible refine (HC.out _ HD.out).mono ?_)
        rintro e w4 ⟨rfl, hb4⟩
        have HB4 := Aside0.mk hb4
        clear hb4
        refine ⟨_, rfl, ?_⟩
        refine hK.out _ _ (HF.out w4 (HD.out.trans (HB4.out.mono (Nat.le_refl _)))).2 (fun hHeld => ?_)
        clear hK K
        refine norm_ (a' := ?_) ?_ ?_
        rotate_left
        · show Act.put _ (some 169) _ = _
          simp only [Act.put, List.setIfInBounds_toArray, List.set_cons_zero, List.set_cons_succ]
          rfl
        refine pure_ (i := 12) (N := some 170) (v := ?_) (a' := ?_) #[true, true, true, true, true, true, true, true, true, true, true, true, true, false] rfl rfl (by kernel_rfl) (fun _ _ _ h => h) (Or.inl ⟨by rfl, ?_⟩) ?_ ?_
        rotate_left
        · intro w'
          go_simp
          with_reducible rfl
        rotate_left
        · simp only [Act.put, List.setIfInBounds_toArray, List.set_cons_zero, List.set_cons_succ]
          rfl
        refine pure_ (i := 13) (N := some 171) (v := ?_) (a' := ?_) #[true, true, true, true, true, true, true, true, true, true, true, true, true, true] rfl rfl (by kernel_rfl) (fun _ _ _ h => h) (Or.inl ⟨by rfl, ?_⟩) ?_ ?_
        rotate_left
        · intro w'
          go_simp
          with_reducible rfl
        rotate_left
        · simp only [Act.put, List.setIfInBounds_toArray, List.set_cons_zero, List.set_cons_succ]
          rfl
        refine done_ (by kernel_rfl) ?_
        have HD4 : Aside0 (Below wr.heap.size wr w4) := ⟨HD.out.trans (HB4.out.mono (Nat.le_refl _))⟩
        have HS4 := Aside0.mk (HF.out w4 HD4.out).1
        clear HB4 HD HC hHeld HF HD4
        by_cases hlt2 : cf y x < 0
        · have q6 : decide (cf y x < 0) = true := decide_eq_true hlt2
          have HJ2 : Aside0 (∀ c, h ≤ c → c < mid → Ah cf (Y.getD (mid - 1 - c) 0) (X.getD (c - a) 0)) := ⟨fun d hd hle => by
            have hyx := (ahead_right C Hxy.out).1 (decide_eq_true hlt2)
            have h1 := HPL.out
            have h2 := Hcx.out
            have h3 := Hcy.out
            rcases Nat.lt_or_ge h d with h4 | h4
            · exact ((HYS.out.1 _ (by omega)).trans C hyx).trans C (HXS.out.2 _ (by omega) (by omega))
            · have e1 : mid - 1 - d = cy := by omega
              have e2 : d - a = cx := by omega
              rw [e1, e2, HXC.out, HYC.out]; exact hyx⟩
          rw [q6]
          have q7 : (cf y x < 0) = True := eq_true hlt2
          clear hlt2 HJ
          go_wp2
          go_roundw
          case rel => exact ⟨i, h, rfl, by first | rfl | go_num, hai, by omega, by omega, HS4, HI, HJ2⟩
          case measure => simp [intOf]; omega
        · have q6 : decide (cf y x < 0) = false := decide_eq_false hlt2
          have HI2 : Aside0 (∀ c, (mid + m - b) ≤ c → c < h + 1 → Ah cf (X.getD (c - a) 0) (Y.getD (mid - 1 - c) 0)) := ⟨fun d hd hle => by
            have hxy := (not_ahead_right C Hxy.out).1 (decide_eq_false hlt2)
            have h1 := HPL.out
            have h2 := Hcx.out
            have h3 := Hcy.out
            rcases Nat.lt_or_ge d h with h4 | h4
            · exact ((HXS.out.1 _ (by omega)).trans C hxy).trans C (HYS.out.2 _ (by omega) (by omega))
            · have e1 : mid - 1 - d = cy := by omega
              have e2 : d - a = cx := by omega
              rw [e1, e2, HXC.out, HYC.out]; exact hxy⟩
          rw [q6]
          have q7 : (cf y x < 0) = False := eq_false hlt2
          clear hlt2 HI
          go_wp2
          go_roundw
          case rel => exact ⟨h + 1, j, by first | rfl | go_num, rfl, by omega, by omega, hjb, HS4, HI2, HJ⟩
          case measure => simp [intOf]; omega
      · have q4 : decide ((i : Int) < (j : Int)) = false := decide_eq_false (by omega)
        have q5 : decide (i < j) = false := decide_eq_false hlt
        obtain rfl : i = j := by omega
        obtain ⟨en, hen⟩ : ∃ en : Nat, (mid : Int) + (m : Int) - (i : Int) = (en : Int) := ⟨mid + m - i, by omega⟩
        have hbounds : a ≤ i ∧ i ≤ m ∧ i ≤ mid ∧ m ≤ en ∧ en ≤ b ∧ en + i = mid + m := by omega
        have c1 := cross_at C hs hs2 (i - a) (en - m) (by have := HPL.out; omega) (by have := HPL.out; omega) (fun h1 h2 => by
          have := HPL.out
          have h3 := HI.out (i - 1) (by omega) (by omega)
          rw [show mid - 1 - (i - 1) = en - m by omega, show i - 1 - a = i - a - 1 by omega] at h3
          exact h3)
        have c2 := cross_at C hs2 hs (en - m) (i - a) (by have := HPL.out; omega) (by have := HPL.out; omega) (fun h1 h2 => by
          have := HPL.out
          have h3 := HJ.out i (by omega) (by omega)
          rw [show mid - 1 - i = en - m - 1 by omega] at h3
          exact h3)
        have sX := hs.split (i - a)
        have sY := hs2.split (en - m)
        have lX1 : (X.take (i - a)).length = i - a := by rw [List.length_take]; have := HPL.out; omega
        have lX2 : (X.drop (i - a)).length = m - i := by rw [List.length_drop]; have := HPL.out; omega
        have lY1 : (Y.take (en - m)).length = en - m := by rw [List.length_take]; have := HPL.out; omega
        have lY2 : (Y.drop (en - m)).length = b - en := by rw [List.length_drop]; have := HPL.out; omega
        have eX : X = X.take (i - a) ++ X.drop (i - a) := (List.take_append_drop _ _).symm
        have eY : Y = Y.take (en - m) ++ Y.drop (en - m) := (List.take_append_drop _ _).symm
        have hnn : P.length + X.length + Y.length + Q.length = n := HNN.out
        obtain ⟨X1, hX1⟩ : ∃ X1, X1 = X.take (i - a) := ⟨_, rfl⟩
        obtain ⟨X2, hX2⟩ : ∃ X2, X2 = X.drop (i - a) := ⟨_, rfl⟩
        obtain ⟨Y1, hY1⟩ : ∃ Y1, Y1 = Y.take (en - m) := ⟨_, rfl⟩
        obtain ⟨Y2, hY2⟩ : ∃ Y2, Y2 = Y.drop (en - m) := ⟨_, rfl⟩
        rw [← hX1] at c1 sX lX1 eX
        rw [← hX2] at c2 sX lX2 eX
        rw [← hY1] at c2 sY lY1 eY
        rw [← hY2] at c1 sY lY2 eY
        have hcr := cross (by rw [← eX]; exact hs) (by rw [← eY]; exact hs2) c1 c2
        have HM : Aside0 (∀ Z1 Z2, Mrg cf X1 Y1 Z1 → Mrg cf X2 Y2 Z2 → Mrg cf X Y (Z1 ++ Z2)) := ⟨fun Z1 Z2 m1 m2 => by rw [eX, eY]; exact m1.parts m2 hcr⟩
        have HS0 : Aside0 (SR w0 g H (P ++ X1 ++ X2 ++ Y1 ++ Y2 ++ Q) wr) := ⟨by have := HS.out; rw [eX, eY] at this; simpa only [List.append_assoc] using this⟩
        have hx1 : ∀ x ∈ X1, ∀ y ∈ Y1, x < y := fun x hx' y hy' => hx x (by rw [eX]; exact List.mem_append_left _ hx') y (by rw [eY]; exact List.mem_append_left _ hy')
        have hx2 : ∀ x ∈ X2, ∀ y ∈ Y2, x < y := fun x hx' y hy' => hx x (by rw [eX]; exact List.mem_append_right _ hx') y (by rw [eY]; exact List.mem_append_right _ hy')
        have lP : P.length = a := HPL.out.1
        have lsum : a + (i - a) + (m - i) + (en - m) + (b - en) + Q.length = n := by have := HPL.out; omega
        have lNN : X.length + Y.length = b - a := by have := HPL.out; omega
        have hrec := HREC.out
        have HRR : Aside0 (0 < X2.length → 0 < Y1.length → ∀ w, SR w0 g H (P ++ X1 ++ X2 ++ Y1 ++ Y2 ++ Q) w → Calls Try.prog 78 #[.slice (some ⟨g, 0, none⟩) n cap, .int .i64 i, .int .i64 m, .int .i64 en, .func (.func f) #[] cb] w fun e w' => e = .returned (.tuple #[]) ∧ SR w0 g H (P ++ X1 ++ Y1 ++ X2 ++ Y2 ++ Q) w') := ⟨fun h1 h2 w hw => by
          have := rotate_calls H w0 g cap (P ++ X1) X2 Y1 (Y2 ++ Q) n i m en (.func (.func f) #[] cb) w (by simp only [List.length_append, lP, lX1, lX2, lY1, lY2]; omega) hl (by simp only [List.length_append, lP, lX1]; omega) (by simp only [List.length_append, lP, lX1, lX2]; omega) (by simp only [List.length_append, lP, lX1, lX2, lY1]; omega) h1 h2 (by simpa only [List.append_assoc] using hw)
          simpa only [List.append_assoc] using this⟩
        have HR1 : Aside0 (0 < X1.length → 0 < Y1.length → ∀ w, SR w0 g H (P ++ X1 ++ Y1 ++ X2 ++ Y2 ++ Q) w → Calls Try.prog 60 #[.slice (some ⟨g, 0, none⟩) n cap, .int .i64 a, .int .i64 i, .int .i64 mid, .func (.func f) #[] cb] w fun e w' => e = .returned (.tuple #[]) ∧ ∃ Z1, Mrg cf X1 Y1 Z1 ∧ SR w0 g H (P ++ Z1 ++ X2 ++ Y2 ++ Q) w') := ⟨fun h1 h2 w hw => by
          have := hrec P X1 Y1 (X2 ++ Y2 ++ Q) a i mid w (by simp only [List.length_append, lP, lX1, lX2, lY1, lY2]; omega) lP.symm (by rw [lP, lX1]; omega) (by rw [lP, lX1, lY1]; omega) h1 h2 (by rw [lX1, lY1]; omega) sX.1 sY.1 hx1 (by simpa only [List.append_assoc] using hw)
          simpa only [List.append_assoc] using this⟩
        have HR2 : Aside0 (0 < X2.length → 0 < Y2.length → ∀ Z1 : List Nat, Z1.length = mid - a → ∀ w, SR w0 g H (P ++ Z1 ++ X2 ++ Y2 ++ Q) w → Calls Try.prog 60 #[.slice (some ⟨g, 0, none⟩) n cap, .int .i64 mid, .int .i64 en, .int .i64 b, .func (.func f) #[] cb] w fun e w' => e = .returned (.tuple #[]) ∧ ∃ Z2, Mrg cf X2 Y2 Z2 ∧ SR w0 g H (P ++ Z1 ++ Z2 ++ Q) w') := ⟨fun h1 h2 Z1 lZ w hw => by
          have := hrec (P ++ Z1) X2 Y2 Q mid en b w (by simp only [List.length_append, lP, lZ, lX2, lY2]; omega) (by simp only [List.length_append, lP, lZ]; omega) (by simp only [List.length_append, lP, lZ, lX2]; omega) (by simp only [List.length_append, lP, lZ, lX2, lY2]; omega) h1 h2 (by rw [lX2, lY2]; omega) sX.2 sY.2 hx2 hw
          exact this⟩
        have HL : Aside0 (X1.length = i - a ∧ X2.length = m - i ∧ Y1.length = en - m ∧ Y2.length = b - en) := ⟨lX1, lX2, lY1, lY2⟩
        have HSR : Aside0 (Srd cf X1 ∧ Srd cf X2 ∧ Srd cf Y1 ∧ Srd cf Y2) := ⟨sX.1, sX.2, sY.1, sY.2⟩
        clear c1 c2 sX sY lX1 lX2 lY1 lY2 eX eY hcr hx1 hx2 lP lsum lNN hrec HS HI HJ hX1 hX2 hY1 hY2 hnn hs hs2 hx
        by_cases h0 : a < i
        · by_cases h1 : i < m
          · by_cases h2 : m < en
            · by_cases h3 : en < b
              · have r0 : decide ((i : Int) < (m : Int)) = true := decide_eq_true (by omega)
                have s0 : decide (i < m) = true := decide_eq_true (by omega)
                have r1 : decide ((m : Int) < (en : Int)) = true := decide_eq_true (by omega)
                have s1 : decide (m < en) = true := decide_eq_true (by omega)
                have r2 : decide ((a : Int) < (i : Int)) = true := decide_eq_true (by omega)
                have s2 : decide (a < i) = true := decide_eq_true (by omega)
                have r3 : decide ((i : Int) < (mid : Int)) = true := decide_eq_true (by omega)
                have s3 : decide (i < mid) = true := decide_eq_true (by omega)
                have r4 : decide ((mid : Int) < (en : Int)) = true := decide_eq_true (by omega)
                have s4 : decide (mid < en) = true := decide_eq_true (by omega)
                have r5 : decide ((en : Int) < (b : Int)) = true := decide_eq_true (by omega)
                have s5 : decide (en < b) = true := decide_eq_true (by omega)
                have HR := Aside0.mk (HRR.out (by have := HL.out; omega) (by have := HL.out; omega))
                have HA := Aside0.mk (HR1.out (by have := HL.out; omega) (by have := HL.out; omega))
                have HB := Aside0.mk (HR2.out (by have := HL.out; omega) (by have := HL.out; omega))
                clear HRR HR1 HR2 h0 h1 h2 h3
                go_wp2_with (go_at_call 78; refine (HR.out _ HS0.out).mono ?_; rintro e w5 ⟨rfl, hs5⟩; have HT := Aside0.mk hs5; clear hs5 HS0 HR)
                go_wp2_with (go_at_call 60; refine (HA.out _ HT.out).mono ?_; rintro e w6 ⟨rfl, Z1, hm1, hs6⟩; have HM1 := Aside0.mk hm1; have HU := Aside0.mk hs6; clear hs6 hm1 HT HA)
                have HB2 := Aside0.mk (HB.out Z1 (by have := HM1.out.1.length_eq; rw [List.length_append] at this; have := HL.out; omega))
                clear HB
                go_wp2_with (go_at_call 60; refine (HB2.out _ HU.out).mono ?_; rintro e w7 ⟨rfl, Z2, hm2, hs7⟩; have HM2 := Aside0.mk hm2; have HV := Aside0.mk hs7; clear hs7 hm2 HU HB2)
                first | go_end0 | (go_wp2; refine bodyPost_ret (results_none rfl _ _ _) rfl ?_) | refine bodyPost_ret (results_none rfl _ _ _) rfl ?_
                exact ⟨rfl, Z1 ++ Z2, HM.out _ _ HM1.out HM2.out, by have := HV.out; simpa only [List.append_assoc] using this⟩
              · have r0 : decide ((i : Int) < (m : Int)) = true := decide_eq_true (by omega)
                have s0 : decide (i < m) = true := decide_eq_true (by omega)
                have r1 : decide ((m : Int) < (en : Int)) = true := decide_eq_true (by omega)
                have s1 : decide (m < en) = true := decide_eq_true (by omega)
                have r2 : decide ((a : Int) < (i : Int)) = true := decide_eq_true (by omega)
                have s2 : decide (a < i) = true := decide_eq_true (by omega)
                have r3 : decide ((i : Int) < (mid : Int)) = true := decide_eq_true (by omega)
                have s3 : decide (i < mid) = true := decide_eq_true (by omega)
                have r4 : decide ((mid : Int) < (en : Int)) = true := decide_eq_true (by omega)
                have s4 : decide (mid < en) = true := decide_eq_true (by omega)
                have r5 : decide ((en : Int) < (b : Int)) = false := decide_eq_false (by omega)
                have s5 : decide (en < b) = false := decide_eq_false (by omega)
                have HR := Aside0.mk (HRR.out (by have := HL.out; omega) (by have := HL.out; omega))
                have HA := Aside0.mk (HR1.out (by have := HL.out; omega) (by have := HL.out; omega))
                have HEY2 : Aside0 (Y2 = []) := ⟨List.eq_nil_of_length_eq_zero (by have := HL.out; omega)⟩
                clear HRR HR1 HR2 h0 h1 h2 h3
                go_wp2_with (go_at_call 78; refine (HR.out _ HS0.out).mono ?_; rintro e w5 ⟨rfl, hs5⟩; have HT := Aside0.mk hs5; clear hs5 HS0 HR)
                go_wp2_with (go_at_call 60; refine (HA.out _ HT.out).mono ?_; rintro e w6 ⟨rfl, Z1, hm1, hs6⟩; have HM1 := Aside0.mk hm1; have HU := Aside0.mk hs6; clear hs6 hm1 HT HA)
                have HM2 : Aside0 (Mrg cf X2 Y2 (X2 ++ Y2)) := ⟨by rw [HEY2.out]; first | exact Mrg.nil_left HSR.out.2.2.2 | (rw [List.append_nil]; exact Mrg.nil_right HSR.out.2.1)⟩
                obtain ⟨Z2, hZ2⟩ : ∃ Z2, Z2 = X2 ++ Y2 := ⟨_, rfl⟩
                have HV : Aside0 (SR w0 g H (P ++ Z1 ++ Z2 ++ Q) _) := ⟨by have := HU.out; rw [hZ2]; simpa only [List.append_assoc] using this⟩
                rw [← hZ2] at HM2
                clear hZ2 HU
                first | go_end0 | (go_wp2; refine bodyPost_ret (results_none rfl _ _ _) rfl ?_) | refine bodyPost_ret (results_none rfl _ _ _) rfl ?_
                exact ⟨rfl, Z1 ++ Z2, HM.out _ _ HM1.out HM2.out, by have := HV.out; simpa only [List.append_assoc] using this⟩
            · by_cases h3 : en < b
              · have r0 : decide ((i : Int) < (m : Int)) = true := decide_eq_true (by omega)
                have s0 : decide (i < m) = true := decide_eq_true (by omega)
                have r1 : decide ((m : Int) < (en : Int)) = false := decide_eq_false (by omega)
                have s1 : decide (m < en) = false := decide_eq_false (by omega)
                have r2 : decide ((a : Int) < (i : Int)) = true := decide_eq_true (by omega)
                have s2 : decide (a < i) = true := decide_eq_true (by omega)
                have r3 : decide ((i : Int) < (mid : Int)) = false := decide_eq_false (by omega)
                have s3 : decide (i < mid) = false := decide_eq_false (by omega)
                have r4 : decide ((mid : Int) < (en : Int)) = true := decide_eq_true (by omega)
                have s4 : decide (mid < en) = true := decide_eq_true (by omega)
                have r5 : decide ((en : Int) < (b : Int)) = true := decide_eq_true (by omega)
                have s5 : decide (en < b) = true := decide_eq_true (by omega)
                have HT : Aside0 (SR w0 g H (P ++ X1 ++ Y1 ++ X2 ++ Y2 ++ Q) wr) := ⟨by have := HS0.out; have e : Y1 = [] := List.eq_nil_of_length_eq_zero (by have := HL.out; omega); simpa [e] using this⟩
                have HB := Aside0.mk (HR2.out (by have := HL.out; omega) (by have := HL.out; omega))
                have HEY1 : Aside0 (Y1 = []) := ⟨List.eq_nil_of_length_eq_zero (by have := HL.out; omega)⟩
                clear HRR HR1 HR2 h0 h1 h2 h3
                have HM1 : Aside0 (Mrg cf X1 Y1 (X1 ++ Y1)) := ⟨by rw [HEY1.out]; first | exact Mrg.nil_left HSR.out.2.2.1 | (rw [List.append_nil]; exact Mrg.nil_right HSR.out.1)⟩
                obtain ⟨Z1, hZ1⟩ : ∃ Z1, Z1 = X1 ++ Y1 := ⟨_, rfl⟩
                have HU : Aside0 (SR w0 g H (P ++ Z1 ++ X2 ++ Y2 ++ Q) _) := ⟨by have := HT.out; rw [hZ1]; simpa only [List.append_assoc] using this⟩
                rw [← hZ1] at HM1
                clear hZ1 HT
                have HB2 := Aside0.mk (HB.out Z1 (by have := HM1.out.1.length_eq; rw [List.length_append] at this; have := HL.out; omega))
                clear HB
                go_wp2_with (go_at_call 60; refine (HB2.out _ HU.out).mono ?_; rintro e w7 ⟨rfl, Z2, hm2, hs7⟩; have HM2 := Aside0.mk hm2; have HV := Aside0.mk hs7; clear hs7 hm2 HU HB2)
                first | go_end0 | (go_wp2; refine bodyPost_ret (results_none rfl _ _ _) rfl ?_) | refine bodyPost_ret (results_none rfl _ _ _) rfl ?_
                exact ⟨rfl, Z1 ++ Z2, HM.out _ _ HM1.out HM2.out, by have := HV.out; simpa only [List.append_assoc] using this⟩
              · exfalso; omega
          · by_cases h2 : m < en
            · by_cases h3 : en < b
              · have r0 : decide ((i : Int) < (m : Int)) = false := decide_eq_false (by omega)
                have s0 : decide (i < m) = false := decide_eq_false (by omega)
                have r1 : decide ((m : Int) < (en : Int)) = true := decide_eq_true (by omega)
                have s1 : decide (m < en) = true := decide_eq_true (by omega)
                have r2 : decide ((a : Int) < (i : Int)) = true := decide_eq_true (by omega)
                have s2 : decide (a < i) = true := decide_eq_true (by omega)
                have r3 : decide ((i : Int) < (mid : Int)) = true := decide_eq_true (by omega)
                have s3 : decide (i < mid) = true := decide_eq_true (by omega)
                have r4 : decide ((mid : Int) < (en : Int)) = false := decide_eq_false (by omega)
                have s4 : decide (mid < en) = false := decide_eq_false (by omega)
                have r5 : decide ((en : Int) < (b : Int)) = true := decide_eq_true (by omega)
                have s5 : decide (en < b) = true := decide_eq_true (by omega)
                have HT : Aside0 (SR w0 g H (P ++ X1 ++ Y1 ++ X2 ++ Y2 ++ Q) wr) := ⟨by have := HS0.out; have e : X2 = [] := List.eq_nil_of_length_eq_zero (by have := HL.out; omega); simpa [e] using this⟩
                have HA := Aside0.mk (HR1.out (by have := HL.out; omega) (by have := HL.out; omega))
                have HEX2 : Aside0 (X2 = []) := ⟨List.eq_nil_of_length_eq_zero (by have := HL.out; omega)⟩
                clear HRR HR1 HR2 h0 h1 h2 h3
                go_wp2_with (go_at_call 60; refine (HA.out _ HT.out).mono ?_; rintro e w6 ⟨rfl, Z1, hm1, hs6⟩; have HM1 := Aside0.mk hm1; have HU := Aside0.mk hs6; clear hs6 hm1 HT HA)
                have HM2 : Aside0 (Mrg cf X2 Y2 (X2 ++ Y2)) := ⟨by rw [HEX2.out]; first | exact Mrg.nil_left HSR.out.2.2.2 | (rw [List.append_nil]; exact Mrg.nil_right HSR.out.2.1)⟩
                obtain ⟨Z2, hZ2⟩ : ∃ Z2, Z2 = X2 ++ Y2 := ⟨_, rfl⟩
                have HV : Aside0 (SR w0 g H (P ++ Z1 ++ Z2 ++ Q) _) := ⟨by have := HU.out; rw [hZ2]; simpa only [List.append_assoc] using this⟩
                rw [← hZ2] at HM2
                clear hZ2 HU
                first | go_end0 | (go_wp2; refine bodyPost_ret (results_none rfl _ _ _) rfl ?_) | refine bodyPost_ret (results_none rfl _ _ _) rfl ?_
                exact ⟨rfl, Z1 ++ Z2, HM.out _ _ HM1.out HM2.out, by have := HV.out; simpa only [List.append_assoc] using this⟩
              · exfalso; omega
            · by_cases h3 : en < b
              · have r0 : decide ((i : Int) < (m : Int)) = false := decide_eq_false (by omega)
                have s0 : decide (i < m) = false := decide_eq_false (by omega)
                have r1 : decide ((m : Int) < (en : Int)) = false := decide_eq_false (by omega)
                have s1 : decide (m < en) = false := decide_eq_false (by omega)
                have r2 : decide ((a : Int) < (i : Int)) = true := decide_eq_true (by omega)
                have s2 : decide (a < i) = true := decide_eq_true (by omega)
                have r3 : decide ((i : Int) < (mid : Int)) = false := decide_eq_false (by omega)
                have s3 : decide (i < mid) = false := decide_eq_false (by omega)
                have r4 : decide ((mid : Int) < (en : Int)) = false := decide_eq_false (by omega)
                have s4 : decide (mid < en) = false := decide_eq_false (by omega)
                have r5 : decide ((en : Int) < (b : Int)) = true := decide_eq_true (by omega)
                have s5 : decide (en < b) = true := decide_eq_true (by omega)
                have HT : Aside0 (SR w0 g H (P ++ X1 ++ Y1 ++ X2 ++ Y2 ++ Q) wr) := ⟨by have := HS0.out; have e : X2 = [] := List.eq_nil_of_length_eq_zero (by have := HL.out; omega); simpa [e] using this⟩
                have HEX2 : Aside0 (X2 = []) := ⟨List.eq_nil_of_length_eq_zero (by have := HL.out; omega)⟩
                have HEY1 : Aside0 (Y1 = []) := ⟨List.eq_nil_of_length_eq_zero (by have := HL.out; omega)⟩
                clear HRR HR1 HR2 h0 h1 h2 h3
                have HM1 : Aside0 (Mrg cf X1 Y1 (X1 ++ Y1)) := ⟨by rw [HEY1.out]; first | exact Mrg.nil_left HSR.out.2.2.1 | (rw [List.append_nil]; exact Mrg.nil_right HSR.out.1)⟩
                obtain ⟨Z1, hZ1⟩ : ∃ Z1, Z1 = X1 ++ Y1 := ⟨_, rfl⟩
                have HU : Aside0 (SR w0 g H (P ++ Z1 ++ X2 ++ Y2 ++ Q) _) := ⟨by have := HT.out; rw [hZ1]; simpa only [List.append_assoc] using this⟩
                rw [← hZ1] at HM1
                clear hZ1 HT
                have HM2 : Aside0 (Mrg cf X2 Y2 (X2 ++ Y2)) := ⟨by rw [HEX2.out]; first | exact Mrg.nil_left HSR.out.2.2.2 | (rw [List.append_nil]; exact Mrg.nil_right HSR.out.2.1)⟩
                obtain ⟨Z2, hZ2⟩ : ∃ Z2, Z2 = X2 ++ Y2 := ⟨_, rfl⟩
                have HV : Aside0 (SR w0 g H (P ++ Z1 ++ Z2 ++ Q) _) := ⟨by have := HU.out; rw [hZ2]; simpa only [List.append_assoc] using this⟩
                rw [← hZ2] at HM2
                clear hZ2 HU
                go_wp2
                first | go_end0 | (go_wp2; refine bodyPost_ret (results_none rfl _ _ _) rfl ?_) | refine bodyPost_ret (results_none rfl _ _ _) rfl ?_
                exact ⟨rfl, Z1 ++ Z2, HM.out _ _ HM1.out HM2.out, by have := HV.out; simpa only [List.append_assoc] using this⟩
              · exfalso; omega
        · by_cases h1 : i < m
          · by_cases h2 : m < en
            · by_cases h3 : en < b
              · have r0 : decide ((i : Int) < (m : Int)) = true := decide_eq_true (by omega)
                have s0 : decide (i < m) = true := decide_eq_true (by omega)
                have r1 : decide ((m : Int) < (en : Int)) = true := decide_eq_true (by omega)
                have s1 : decide (m < en) = true := decide_eq_true (by omega)
                have r2 : decide ((a : Int) < (i : Int)) = false := decide_eq_false (by omega)
                have s2 : decide (a < i) = false := decide_eq_false (by omega)
                have r3 : decide ((i : Int) < (mid : Int)) = true := decide_eq_true (by omega)
                have s3 : decide (i < mid) = true := decide_eq_true (by omega)
                have r4 : decide ((mid : Int) < (en : Int)) = true := decide_eq_true (by omega)
                have s4 : decide (mid < en) = true := decide_eq_true (by omega)
                have r5 : decide ((en : Int) < (b : Int)) = true := decide_eq_true (by omega)
                have s5 : decide (en < b) = true := decide_eq_true (by omega)
                have HR := Aside0.mk (HRR.out (by have := HL.out; omega) (by have := HL.out; omega))
                have HB := Aside0.mk (HR2.out (by have := HL.out; omega) (by have := HL.out; omega))
                have HEX1 : Aside0 (X1 = []) := ⟨List.eq_nil_of_length_eq_zero (by have := HL.out; omega)⟩
                clear HRR HR1 HR2 h0 h1 h2 h3
                go_wp2_with (go_at_call 78; refine (HR.out _ HS0.out).mono ?_; rintro e w5 ⟨rfl, hs5⟩; have HT := Aside0.mk hs5; clear hs5 HS0 HR)
                have HM1 : Aside0 (Mrg cf X1 Y1 (X1 ++ Y1)) := ⟨by rw [HEX1.out]; first | exact Mrg.nil_left HSR.out.2.2.1 | (rw [List.append_nil]; exact Mrg.nil_right HSR.out.1)⟩
                obtain ⟨Z1, hZ1⟩ : ∃ Z1, Z1 = X1 ++ Y1 := ⟨_, rfl⟩
                have HU : Aside0 (SR w0 g H (P ++ Z1 ++ X2 ++ Y2 ++ Q) _) := ⟨by have := HT.out; rw [hZ1]; simpa only [List.append_assoc] using this⟩
                rw [← hZ1] at HM1
                clear hZ1 HT
                have HB2 := Aside0.mk (HB.out Z1 (by have := HM1.out.1.length_eq; rw [List.length_append] at this; have := HL.out; omega))
                clear HB
                go_wp2_with (go_at_call 60; refine (HB2.out _ HU.out).mono ?_; rintro e w7 ⟨rfl, Z2, hm2, hs7⟩; have HM2 := Aside0.mk hm2; have HV := Aside0.mk hs7; clear hs7 hm2 HU HB2)
                first | go_end0 | (go_wp2; refine bodyPost_ret (results_none rfl _ _ _) rfl ?_) | refine bodyPost_ret (results_none rfl _ _ _) rfl ?_
                exact ⟨rfl, Z1 ++ Z2, HM.out _ _ HM1.out HM2.out, by have := HV.out; simpa only [List.append_assoc] using this⟩
              · have r0 : decide ((i : Int) < (m : Int)) = true := decide_eq_true (by omega)
                have s0 : decide (i < m) = true := decide_eq_true (by omega)
                have r1 : decide ((m : Int) < (en : Int)) = true := decide_eq_true (by omega)
                have s1 : decide (m < en) = true := decide_eq_true (by omega)
                have r2 : decide ((a : Int) < (i : Int)) = false := decide_eq_false (by omega)
                have s2 : decide (a < i) = false := decide_eq_false (by omega)
                have r3 : decide ((i : Int) < (mid : Int)) = true := decide_eq_true (by omega)
                have s3 : decide (i < mid) = true := decide_eq_true (by omega)
                have r4 : decide ((mid : Int) < (en : Int)) = true := decide_eq_true (by omega)
                have s4 : decide (mid < en) = true := decide_eq_true (by omega)
                have r5 : decide ((en : Int) < (b : Int)) = false := decide_eq_false (by omega)
                have s5 : decide (en < b) = false := decide_eq_false (by omega)
                have HR := Aside0.mk (HRR.out (by have := HL.out; omega) (by have := HL.out; omega))
                have HEX1 : Aside0 (X1 = []) := ⟨List.eq_nil_of_length_eq_zero (by have := HL.out; omega)⟩
                have HEY2 : Aside0 (Y2 = []) := ⟨List.eq_nil_of_length_eq_zero (by have := HL.out; omega)⟩
                clear HRR HR1 HR2 h0 h1 h2 h3
                go_wp2_with (go_at_call 78; refine (HR.out _ HS0.out).mono ?_; rintro e w5 ⟨rfl, hs5⟩; have HT := Aside0.mk hs5; clear hs5 HS0 HR)
                have HM1 : Aside0 (Mrg cf X1 Y1 (X1 ++ Y1)) := ⟨by rw [HEX1.out]; first | exact Mrg.nil_left HSR.out.2.2.1 | (rw [List.append_nil]; exact Mrg.nil_right HSR.out.1)⟩
                obtain ⟨Z1, hZ1⟩ : ∃ Z1, Z1 = X1 ++ Y1 := ⟨_, rfl⟩
                have HU : Aside0 (SR w0 g H (P ++ Z1 ++ X2 ++ Y2 ++ Q) _) := ⟨by have := HT.out; rw [hZ1]; simpa only [List.append_assoc] using this⟩
                rw [← hZ1] at HM1
                clear hZ1 HT
                have HM2 : Aside0 (Mrg cf X2 Y2 (X2 ++ Y2)) := ⟨by rw [HEY2.out]; first | exact Mrg.nil_left HSR.out.2.2.2 | (rw [List.append_nil]; exact Mrg.nil_right HSR.out.2.1)⟩
                obtain ⟨Z2, hZ2⟩ : ∃ Z2, Z2 = X2 ++ Y2 := ⟨_, rfl⟩
                have HV : Aside0 (SR w0 g H (P ++ Z1 ++ Z2 ++ Q) _) := ⟨by have := HU.out; rw [hZ2]; simpa only [List.append_assoc] using this⟩
                rw [← hZ2] at HM2
                clear hZ2 HU
                first | go_end0 | (go_wp2; refine bodyPost_ret (results_none rfl _ _ _) rfl ?_) | refine bodyPost_ret (results_none rfl _ _ _) rfl ?_
                exact ⟨rfl, Z1 ++ Z2, HM.out _ _ HM1.out HM2.out, by have := HV.out; simpa only [List.append_assoc] using this⟩
            · by_cases h3 : en < b
              · exfalso; omega
              · exfalso; omega
          · by_cases h2 : m < en
            · by_cases h3 : en < b
              · exfalso; omega
              · exfalso; omega
            · by_cases h3 : en < b
              · exfalso; omega
              · exfalso; omega
  · have q2 : decide ((m : Int) > (mid : Int)) = false := decide_eq_false (by omega)
    have q3 : decide ((mid : Int) < (m : Int)) = false := decide_eq_false (by omega)
    go_enter Try.func60, Try.ntmps60
    go_wp2
    have HI0 : Aside0 (∀ c, a ≤ c → c < a → Ah cf (X.getD (c - a) 0) (Y.getD (mid - 1 - c) 0)) := ⟨fun c _ _ => by omega⟩
    have HJ0 : Aside0 (∀ c, m ≤ c → c < m → Ah cf (Y.getD (mid - 1 - c) 0) (X.getD (c - a) 0)) := ⟨fun c _ _ => by omega⟩
    go_loopw [20, 21] (fun v20 v21 wr => ∃ (i j : Nat), v20 = .int .i64 i ∧ v21 = .int .i64 j ∧ a ≤ i ∧ i ≤ j ∧ j ≤ m ∧ Aside0 (SR w0 g H (P ++ X ++ Y ++ Q) wr) ∧ Aside0 (∀ c, a ≤ c → c < i → Ah cf (X.getD (c - a) 0) (Y.getD (mid - 1 - c) 0)) ∧ Aside0 (∀ c, j ≤ c → c < m → Ah cf (Y.getD (mid - 1 - c) 0) (X.getD (c - a) 0))) (fun v20 v21 _ => (intOf v21).toNat - (intOf v20).toNat)
    case atStart => exact ⟨a, m, by first | rfl | (congr 1; omega), rfl, Nat.le_refl _, by omega, Nat.le_refl _, H0, HI0, HJ0⟩
    case round =>
      clear H0 HI0 HJ0
      obtain ⟨i, j, rfl, rfl, hai, hij, hjb, HS, HI, HJ⟩ := hrel
      by_cases hlt : i < j
      · have q4 : decide ((i : Int) < (j : Int)) = true := decide_eq_true (by omega)
        have q5 : decide (i < j) = true := decide_eq_true hlt
        obtain ⟨h, hh⟩ : ∃ h : Nat, ((i : Int) + (j : Int)) / 2 = (h : Int) := ⟨(i + j) / 2, by omega⟩
        have hih : i ≤ h ∧ h < j := by omega
        obtain ⟨q, hq⟩ : ∃ q : Nat, (mid : Int) + (m : Int) - 1 - (h : Int) = (q : Int) := ⟨mid + m - 1 - h, by omega⟩
        obtain ⟨cx, hcx⟩ : ∃ c, h = a + c := ⟨h - a, by omega⟩
        obtain ⟨cy, hcy⟩ : ∃ c, mid - 1 - h = c := ⟨_, rfl⟩
        have hqm : q = m + cy := by omega
        have hcX : cx < X.length := by have := HPL.out; omega
        have hcY : cy < Y.length := by have := HPL.out; omega
        have gx : (P ++ X ++ Y ++ Q).getD h 0 = X.getD cx 0 := by
          have e : P ++ X ++ Y ++ Q = P ++ X ++ (Y ++ Q) := by simp only [List.append_assoc]
          rw [hcx, e]; exact getD_X P X _ a cx HPL.out.1 hcX
        have gy : (P ++ X ++ Y ++ Q).getD q 0 = Y.getD cy 0 := by
          have l : (P ++ X).length = m := by rw [List.length_append, HPL.out.1]; exact HPL.out.2.1
          rw [hqm]; exact getD_X (P ++ X) Y Q m cy l hcY
        have hxy : X.getD cx 0 < Y.getD cy 0 := hx _ (by rw [List.getD_eq_getElem?_getD, List.getElem?_eq_getElem hcX]; exact List.getElem_mem _) _ (by rw [List.getD_eq_getElem?_getD, List.getElem?_eq_getElem hcY]; exact List.getElem_mem _)
        have hlen2 : h < (P ++ X ++ Y ++ Q).length ∧ q < (P ++ X ++ Y ++ Q).length := by
          have e1 := HPL.out
          simp only [List.length_append]
          omega
        have hXs := srd_at hs hcX
        have hYs := srd_at hs2 hcY
        obtain ⟨x, hxc⟩ : ∃ x, X.getD cx 0 = x := ⟨_, rfl⟩
        obtain ⟨y, hyc⟩ : ∃ y, Y.getD cy 0 = y := ⟨_, rfl⟩
        have HXC := Aside0.mk hxc
        have HYC := Aside0.mk hyc
        rw [hxc] at gx hxy hXs
        rw [hyc] at gy hxy hYs
        clear hxc hyc
        obtain ⟨x1, x2, x3, hHx⟩ : ∃ a b c, H x = (a, b, c) := ⟨_, _, _, rfl⟩
        obtain ⟨y1, y2, y3, hHy⟩ : ∃ a b c, H y = (a, b, c) := ⟨_, _, _, rfl⟩
        have hfacts : ∀ w1, Below wr.heap.size wr w1 → SR w0 g H (P ++ X ++ Y ++ Q) w1 ∧ w1.cell? ⟨g, q, none⟩ = some (.slice y1 y2 y3) ∧ w1.cell? ⟨g, h, none⟩ = some (.slice x1 x2 x3) := fun w1 hb => by
          have h1 := HS.out.later hb
          have c1 := h1.cell q hlen2.2
          have c2 := h1.cell h hlen2.1
          rw [gy, hHy] at c1
          rw [gx, hHx] at c2
          exact ⟨h1, c1, c2⟩
        have HF := Aside0.mk hfacts
        have HC : Aside0 (∀ w1, Below wr.heap.size wr w1 → Calls Try.prog f (#[.slice y1 y2 y3, .slice x1 x2 x3] ++ cb) w1 fun e w' => e = .returned (.int .i64 (cf y x)) ∧ Below w1.heap.size w1 w') := ⟨fun w1 hb => by
          have h1 := (hfacts w1 hb).1
          have := HCMP.out y x w1 h1.below h1.keep
          simpa only [hHx, hHy, hdr] using this⟩
        have p1 : (0 ≤ (h : Int)) = True := eq_true (by omega)
        have p2 : ((h : Int) < (n : Int)) = True := eq_true (by omega)
        have p3 : (0 ≤ (q : Int)) = True := eq_true (by omega)
        have p4 : ((q : Int) < (n : Int)) = True := eq_true (by omega)
        have p5 : (h < n) = True := eq_true (by omega)
        have p6 : (q < n) = True := eq_true (by omega)
        have p7 : IntKind.i64.wrap (q : Int) = (q : Int) := wrap_nat (by omega)
        have HXS := Aside0.mk hXs
        have HYS := Aside0.mk hYs
        have Hcx := Aside0.mk hcx
        have Hcy := Aside0.mk hcy
        have Hxy := Aside0.mk hxy
        have HD := Aside0.mk (below_drew (Below.refl wr.heap.size wr))
        have HCX := Aside0.mk hcX
        have HCY := Aside0.mk hcY
        clear gx gy hlen2 hXs hYs hfacts HS hcx hcy hxy hcX hcY hqm
        go_upto_region 35 with (fail)
        clear hh
        refine start_ (n := 14) (S := fun w' => (w'.cell? ⟨g, q, none⟩ = some (.slice y1 y2 y3) ∧ w'.cell? ⟨g, h, none⟩ = some (.slice x1 x2 x3))) (ds := []) #[false, false, false, false, false, false, false, false, false, false, false, false, false, false] (by kernel_rfl) rfl rfl ((HF.out wr.drew HD.out).2) (fun hHeld => ?_)
        refine pure_ (i := 0) (N := some 158) (v := ?_) (a' := ?_) #[true, false, false, false, false, false, false, false, false, false, false, false, false, false] rfl rfl (by kernel_rfl) (fun _ _ _ h => h) (Or.inl ⟨by rfl, ?_⟩) ?_ ?_
        rotate_left
        · intro w'
          go_simp
          with_reducible rfl
        rotate_left
        · simp only [Act.put, List.setIfInBounds_toArray, List.set_cons_zero, List.set_cons_succ]
          rfl
        refine pure_ (i := 1) (N := some 159) (v := ?_) (a' := ?_) #[true, true, false, false, false, false, false, false, false, false, false, false, false, false] rfl rfl (by kernel_rfl) (fun _ _ _ h => h) (Or.inl ⟨by rfl, ?_⟩) ?_ ?_
        rotate_left
        · intro w'
          go_simp
          with_reducible rfl
        rotate_left
        · simp only [Act.put, List.setIfInBounds_toArray, List.set_cons_zero, List.set_cons_succ]
          rfl
        refine pure_ (i := 2) (N := some 160) (v := ?_) (a' := ?_) #[true, true, true, false, false, false, false, false, false, false, false, false, false, false] rfl rfl (by kernel_rfl) (fun _ _ _ h => h) (Or.inl ⟨by rfl, ?_⟩) ?_ ?_
        rotate_left
        · intro w'
          go_simp
          with_reducible rfl
        rotate_left
        · simp only [Act.put, List.setIfInBounds_toArray, List.set_cons_zero, List.set_cons_succ]
          rfl
        refine pure_ (i := 3) (N := some 161) (v := ?_) (a' := ?_) #[true, true, true, true, false, false, false, false, false, false, false, false, false, false] rfl rfl (by kernel_rfl) (fun _ _ _ h => h) (Or.inl ⟨by rfl, ?_⟩) ?_ ?_
        rotate_left
        · intro w'
          go_simp
          with_reducible rfl
        rotate_left
        · simp only [Act.put, List.setIfInBounds_toArray, List.set_cons_zero, List.set_cons_succ]
          rfl
        refine pure_ (i := 4) (N := some 162) (v := ?_) (a' := ?_) #[true, true, true, true, true, false, false, false, false, false, false, false, false, false] rfl rfl (by kernel_rfl) (fun _ _ _ h => h) (Or.inl ⟨by rfl, ?_⟩) ?_ ?_
        rotate_left
        · intro w'
          go_simp
          with_reducible rfl
        rotate_left
        · simp only [Act.put, List.setIfInBounds_toArray, List.set_cons_zero, List.set_cons_succ]
          rfl
        refine pure_ (i := 5) (N := some 163) (v := ?_) (a' := ?_) #[true, true, true, true, true, true, false, false, false, false, false, false, false, false] rfl rfl (by kernel_rfl) (fun _ _ _ h => h) (Or.inl ⟨by rfl, ?_⟩) ?_ ?_
        rotate_left
        · intro w'
          go_simp
          with_reducible rfl
        rotate_left
        · simp only [Act.put, List.setIfInBounds_toArray, List.set_cons_zero, List.set_cons_succ]
          rfl
        refine take_ (i := 6) (N := some 164) (v := ?_) (a' := ?_) #[true, true, true, true, true, true, true, false, false, false, false, false, false, false] rfl rfl (by kernel_rfl) (fun _ _ _ h => h) (Or.inl ⟨by rfl, ?_⟩) hHeld ?_ ?_
        rotate_left
        · rintro w' ⟨s0, s1⟩
          go_simp
          with_reducible rfl
        rotate_left
        · simp only [Act.put, List.setIfInBounds_toArray, List.set_cons_zero, List.set_cons_succ]
          rfl
        refine pure_ (i := 7) (N := some 165) (v := ?_) (a' := ?_) #[true, true, true, true, true, true, true, true, false, false, false, false, false, false] rfl rfl (by kernel_rfl) (fun _ _ _ h => h) (Or.inl ⟨by rfl, ?_⟩) ?_ ?_
        rotate_left
        · intro w'
          go_simp
          with_reducible rfl
        rotate_left
        · simp only [Act.put, List.setIfInBounds_toArray, List.set_cons_zero, List.set_cons_succ]
          rfl
        refine pure_ (i := 8) (N := some 166) (v := ?_) (a' := ?_) #[true, true, true, true, true, true, true, true, true, false, false, false, false, false] rfl rfl (by kernel_rfl) (fun _ _ _ h => h) (Or.inl ⟨by rfl, ?_⟩) ?_ ?_
        rotate_left
        · intro w'
          go_simp
          with_reducible rfl
        rotate_left
        · simp only [Act.put, List.setIfInBounds_toArray, List.set_cons_zero, List.set_cons_succ]
          rfl
        refine pure_ (i := 9) (N := some 167) (v := ?_) (a' := ?_) #[true, true, true, true, true, true, true, true, true, true, false, false, false, false] rfl rfl (by kernel_rfl) (fun _ _ _ h => h) (Or.inl ⟨by rfl, ?_⟩) ?_ ?_
        rotate_left
        · intro w'
          go_simp
          with_reducible rfl
        rotate_left
        · simp only [Act.put, List.setIfInBounds_toArray, List.set_cons_zero, List.set_cons_succ]
          rfl
        refine take_ (i := 10) (N := some 168) (v := ?_) (a' := ?_) #[true, true, true, true, true, true, true, true, true, true, true, false, false, false] rfl rfl (by kernel_rfl) (fun _ _ _ h => h) (Or.inl ⟨by rfl, ?_⟩) hHeld ?_ ?_
        rotate_left
        · rintro w' ⟨s0, s1⟩
          go_simp
          with_reducible rfl
        rotate_left
        · simp only [Act.put, List.setIfInBounds_toArray, List.set_cons_zero, List.set_cons_succ]
          rfl
        refine one_ (i := 11) (N := some 169) #[true, true, true, true, true, true, true, true, true, true, true, true, false, false] rfl rfl (by kernel_rfl) (by decide) (fun K hK => ?_)
        refine call_ f (#[.slice y1 y2 y3, .slice x1 x2 x3] ++ cb) (by rfl) rfl ?hrun ?_
        case hrun => have he := ef; unfold execOp; simp [resolve, Deferred.ofValue, invoke, Act.eval, he]
        (with_reducible refine (HC.out _ HD.out).mono ?_)
        rintro e w4 ⟨rfl, hb4⟩
        have HB4 := Aside0.mk hb4
        clear hb4
        refine ⟨_, rfl, ?_⟩
        refine hK.out _ _ (HF.out w4 (HD.out.trans (HB4.out.mono (Nat.le_refl _)))).2 (fun hHeld => ?_)
        clear hK K
        refine norm_ (a' := ?_) ?_ ?_
        rotate_left
        · show Act.put _ (some 169) _ = _
          simp only [Act.put, List.setIfInBounds_toArray, List.set_cons_zero, List.set_cons_succ]
          rfl
        refine pure_ (i := 12) (N := some 170) (v := ?_) (a' := ?_) #[true, true, true, true, true, true, true, true, true, true, true, true, true, false] rfl rfl (by kernel_rfl) (fun _ _ _ h => h) (Or.inl ⟨by rfl, ?_⟩) ?_ ?_
        rotate_left
        · intro w'
          go_simp
          with_reducible rfl
        rotate_left
        · simp only [Act.put, List.setIfInBounds_toArray, List.set_cons_zero, List.set_cons_succ]
          rfl
        refine pure_ (i := 13) (N := some 171) (v := ?_) (a' := ?_) #[true, true, true, true, true, true, true, true, true, true, true, true, true, true] rfl rfl (by kernel_rfl) (fun _ _ _ h => h) (Or.inl ⟨by rfl, ?_⟩) ?_ ?_
        rotate_left
        · intro w'
          go_simp
          with_reducible rfl
        rotate_left
        · simp only [Act.put, List.setIfInBounds_toArray, List.set_cons_zero, List.set_cons_succ]
          rfl
        refine done_ (by kernel_rfl) ?_
        have HD4 : Aside0 (Below wr.heap.size wr w4) := ⟨HD.out.trans (HB4.out.mono (Nat.le_refl _))⟩
        have HS4 := Aside0.mk (HF.out w4 HD4.out).1
        clear HB4 HD HC hHeld HF HD4
        by_cases hlt2 : cf y x < 0
        · have q6 : decide (cf y x < 0) = true := decide_eq_true hlt2
          have HJ2 : Aside0 (∀ c, h ≤ c → c < m → Ah cf (Y.getD (mid - 1 - c) 0) (X.getD (c - a) 0)) := ⟨fun d hd hle => by
            have hyx := (ahead_right C Hxy.out).1 (decide_eq_true hlt2)
            have h1 := HPL.out
            have h2 := Hcx.out
            have h3 := Hcy.out
            rcases Nat.lt_or_ge h d with h4 | h4
            · exact ((HYS.out.1 _ (by omega)).trans C hyx).trans C (HXS.out.2 _ (by omega) (by omega))
            · have e1 : mid - 1 - d = cy := by omega
              have e2 : d - a = cx := by omega
              rw [e1, e2, HXC.out, HYC.out]; exact hyx⟩
          rw [q6]
          have q7 : (cf y x < 0) = True := eq_true hlt2
          clear hlt2 HJ
          go_wp2
          go_roundw
          case rel => exact ⟨i, h, rfl, by first | rfl | go_num, hai, by omega, by omega, HS4, HI, HJ2⟩
          case measure => simp [intOf]; omega
        · have q6 : decide (cf y x < 0) = false := decide_eq_false hlt2
          have HI2 : Aside0 (∀ c, a ≤ c → c < h + 1 → Ah cf (X.getD (c - a) 0) (Y.getD (mid - 1 - c) 0)) := ⟨fun d hd hle => by
            have hxy := (not_ahead_right C Hxy.out).1 (decide_eq_false hlt2)
            have h1 := HPL.out
            have h2 := Hcx.out
            have h3 := Hcy.out
            rcases Nat.lt_or_ge d h with h4 | h4
            · exact ((HXS.out.1 _ (by omega)).trans C hxy).trans C (HYS.out.2 _ (by omega) (by omega))
            · have e1 : mid - 1 - d = cy := by omega
              have e2 : d - a = cx := by omega
              rw [e1, e2, HXC.out, HYC.out]; exact hxy⟩
          rw [q6]
          have q7 : (cf y x < 0) = False := eq_false hlt2
          clear hlt2 HI
          go_wp2
          go_roundw
          case rel => exact ⟨h + 1, j, by first | rfl | go_num, rfl, by omega, by omega, hjb, HS4, HI2, HJ⟩
          case measure => simp [intOf]; omega
      · have q4 : decide ((i : Int) < (j : Int)) = false := decide_eq_false (by omega)
        have q5 : decide (i < j) = false := decide_eq_false hlt
        obtain rfl : i = j := by omega
        obtain ⟨en, hen⟩ : ∃ en : Nat, (mid : Int) + (m : Int) - (i : Int) = (en : Int) := ⟨mid + m - i, by omega⟩
        have hbounds : a ≤ i ∧ i ≤ m ∧ i ≤ mid ∧ m ≤ en ∧ en ≤ b ∧ en + i = mid + m := by omega
        have c1 := cross_at C hs hs2 (i - a) (en - m) (by have := HPL.out; omega) (by have := HPL.out; omega) (fun h1 h2 => by
          have := HPL.out
          have h3 := HI.out (i - 1) (by omega) (by omega)
          rw [show mid - 1 - (i - 1) = en - m by omega, show i - 1 - a = i - a - 1 by omega] at h3
          exact h3)
        have c2 := cross_at C hs2 hs (en - m) (i - a) (by have := HPL.out; omega) (by have := HPL.out; omega) (fun h1 h2 => by
          have := HPL.out
          have h3 := HJ.out i (by omega) (by omega)
          rw [show mid - 1 - i = en - m - 1 by omega] at h3
          exact h3)
        have sX := hs.split (i - a)
        have sY := hs2.split (en - m)
        have lX1 : (X.take (i - a)).length = i - a := by rw [List.length_take]; have := HPL.out; omega
        have lX2 : (X.drop (i - a)).length = m - i := by rw [List.length_drop]; have := HPL.out; omega
        have lY1 : (Y.take (en - m)).length = en - m := by rw [List.length_take]; have := HPL.out; omega
        have lY2 : (Y.drop (en - m)).length = b - en := by rw [List.length_drop]; have := HPL.out; omega
        have eX : X = X.take (i - a) ++ X.drop (i - a) := (List.take_append_drop _ _).symm
        have eY : Y = Y.take (en - m) ++ Y.drop (en - m) := (List.take_append_drop _ _).symm
        have hnn : P.length + X.length + Y.length + Q.length = n := HNN.out
        obtain ⟨X1, hX1⟩ : ∃ X1, X1 = X.take (i - a) := ⟨_, rfl⟩
        obtain ⟨X2, hX2⟩ : ∃ X2, X2 = X.drop (i - a) := ⟨_, rfl⟩
        obtain ⟨Y1, hY1⟩ : ∃ Y1, Y1 = Y.take (en - m) := ⟨_, rfl⟩
        obtain ⟨Y2, hY2⟩ : ∃ Y2, Y2 = Y.drop (en - m) := ⟨_, rfl⟩
        rw [← hX1] at c1 sX lX1 eX
        rw [← hX2] at c2 sX lX2 eX
        rw [← hY1] at c2 sY lY1 eY
        rw [← hY2] at c1 sY lY2 eY
        have hcr := cross (by rw [← eX]; exact hs) (by rw [← eY]; exact hs2) c1 c2
        have HM : Aside0 (∀ Z1 Z2, Mrg cf X1 Y1 Z1 → Mrg cf X2 Y2 Z2 → Mrg cf X Y (Z1 ++ Z2)) := ⟨fun Z1 Z2 m1 m2 => by rw [eX, eY]; exact m1.parts m2 hcr⟩
        have HS0 : Aside0 (SR w0 g H (P ++ X1 ++ X2 ++ Y1 ++ Y2 ++ Q) wr) := ⟨by have := HS.out; rw [eX, eY] at this; simpa only [List.append_assoc] using this⟩
        have hx1 : ∀ x ∈ X1, ∀ y ∈ Y1, x < y := fun x hx' y hy' => hx x (by rw [eX]; exact List.mem_append_left _ hx') y (by rw [eY]; exact List.mem_append_left _ hy')
        have hx2 : ∀ x ∈ X2, ∀ y ∈ Y2, x < y := fun x hx' y hy' => hx x (by rw [eX]; exact List.mem_append_right _ hx') y (by rw [eY]; exact List.mem_append_right _ hy')
        have lP : P.length = a := HPL.out.1
        have lsum : a + (i - a) + (m - i) + (en - m) + (b - en) + Q.length = n := by have := HPL.out; omega
        have lNN : X.length + Y.length = b - a := by have := HPL.out; omega
        have hrec := HREC.out
        have HRR : Aside0 (0 < X2.length → 0 < Y1.length → ∀ w, SR w0 g H (P ++ X1 ++ X2 ++ Y1 ++ Y2 ++ Q) w → Calls Try.prog 78 #[.slice (some ⟨g, 0, none⟩) n cap, .int .i64 i, .int .i64 m, .int .i64 en, .func (.func f) #[] cb] w fun e w' => e = .returned (.tuple #[]) ∧ SR w0 g H (P ++ X1 ++ Y1 ++ X2 ++ Y2 ++ Q) w') := ⟨fun h1 h2 w hw => by
          have := rotate_calls H w0 g cap (P ++ X1) X2 Y1 (Y2 ++ Q) n i m en (.func (.func f) #[] cb) w (by simp only [List.length_append, lP, lX1, lX2, lY1, lY2]; omega) hl (by simp only [List.length_append, lP, lX1]; omega) (by simp only [List.length_append, lP, lX1, lX2]; omega) (by simp only [List.length_append, lP, lX1, lX2, lY1]; omega) h1 h2 (by simpa only [List.append_assoc] using hw)
          simpa only [List.append_assoc] using this⟩
        have HR1 : Aside0 (0 < X1.length → 0 < Y1.length → ∀ w, SR w0 g H (P ++ X1 ++ Y1 ++ X2 ++ Y2 ++ Q) w → Calls Try.prog 60 #[.slice (some ⟨g, 0, none⟩) n cap, .int .i64 a, .int .i64 i, .int .i64 mid, .func (.func f) #[] cb] w fun e w' => e = .returned (.tuple #[]) ∧ ∃ Z1, Mrg cf X1 Y1 Z1 ∧ SR w0 g H (P ++ Z1 ++ X2 ++ Y2 ++ Q) w') := ⟨fun h1 h2 w hw => by
          have := hrec P X1 Y1 (X2 ++ Y2 ++ Q) a i mid w (by simp only [List.length_append, lP, lX1, lX2, lY1, lY2]; omega) lP.symm (by rw [lP, lX1]; omega) (by rw [lP, lX1, lY1]; omega) h1 h2 (by rw [lX1, lY1]; omega) sX.1 sY.1 hx1 (by simpa only [List.append_assoc] using hw)
          simpa only [List.append_assoc] using this⟩
        have HR2 : Aside0 (0 < X2.length → 0 < Y2.length → ∀ Z1 : List Nat, Z1.length = mid - a → ∀ w, SR w0 g H (P ++ Z1 ++ X2 ++ Y2 ++ Q) w → Calls Try.prog 60 #[.slice (some ⟨g, 0, none⟩) n cap, .int .i64 mid, .int .i64 en, .int .i64 b, .func (.func f) #[] cb] w fun e w' => e = .returned (.tuple #[]) ∧ ∃ Z2, Mrg cf X2 Y2 Z2 ∧ SR w0 g H (P ++ Z1 ++ Z2 ++ Q) w') := ⟨fun h1 h2 Z1 lZ w hw => by
          have := hrec (P ++ Z1) X2 Y2 Q mid en b w (by simp only [List.length_append, lP, lZ, lX2, lY2]; omega) (by simp only [List.length_append, lP, lZ]; omega) (by simp only [List.length_append, lP, lZ, lX2]; omega) (by simp only [List.length_append, lP, lZ, lX2, lY2]; omega) h1 h2 (by rw [lX2, lY2]; omega) sX.2 sY.2 hx2 hw
          exact this⟩
        have HL : Aside0 (X1.length = i - a ∧ X2.length = m - i ∧ Y1.length = en - m ∧ Y2.length = b - en) := ⟨lX1, lX2, lY1, lY2⟩
        have HSR : Aside0 (Srd cf X1 ∧ Srd cf X2 ∧ Srd cf Y1 ∧ Srd cf Y2) := ⟨sX.1, sX.2, sY.1, sY.2⟩
        clear c1 c2 sX sY lX1 lX2 lY1 lY2 eX eY hcr hx1 hx2 lP lsum lNN hrec HS HI HJ hX1 hX2 hY1 hY2 hnn hs hs2 hx
        by_cases h0 : a < i
        · by_cases h1 : i < m
          · by_cases h2 : m < en
            · by_cases h3 : en < b
              · have r0 : decide ((i : Int) < (m : Int)) = true := decide_eq_true (by omega)
                have s0 : decide (i < m) = true := decide_eq_true (by omega)
                have r1 : decide ((m : Int) < (en : Int)) = true := decide_eq_true (by omega)
                have s1 : decide (m < en) = true := decide_eq_true (by omega)
                have r2 : decide ((a : Int) < (i : Int)) = true := decide_eq_true (by omega)
                have s2 : decide (a < i) = true := decide_eq_true (by omega)
                have r3 : decide ((i : Int) < (mid : Int)) = true := decide_eq_true (by omega)
                have s3 : decide (i < mid) = true := decide_eq_true (by omega)
                have r4 : decide ((mid : Int) < (en : Int)) = true := decide_eq_true (by omega)
                have s4 : decide (mid < en) = true := decide_eq_true (by omega)
                have r5 : decide ((en : Int) < (b : Int)) = true := decide_eq_true (by omega)
                have s5 : decide (en < b) = true := decide_eq_true (by omega)
                have HR := Aside0.mk (HRR.out (by have := HL.out; omega) (by have := HL.out; omega))
                have HA := Aside0.mk (HR1.out (by have := HL.out; omega) (by have := HL.out; omega))
                have HB := Aside0.mk (HR2.out (by have := HL.out; omega) (by have := HL.out; omega))
                clear HRR HR1 HR2 h0 h1 h2 h3
                go_wp2_with (go_at_call 78; refine (HR.out _ HS0.out).mono ?_; rintro e w5 ⟨rfl, hs5⟩; have HT := Aside0.mk hs5; clear hs5 HS0 HR)
                go_wp2_with (go_at_call 60; refine (HA.out _ HT.out).mono ?_; rintro e w6 ⟨rfl, Z1, hm1, hs6⟩; have HM1 := Aside0.mk hm1; have HU := Aside0.mk hs6; clear hs6 hm1 HT HA)
                have HB2 := Aside0.mk (HB.out Z1 (by have := HM1.out.1.length_eq; rw [List.length_append] at this; have := HL.out; omega))
                clear HB
                go_wp2_with (go_at_call 60; refine (HB2.out _ HU.out).mono ?_; rintro e w7 ⟨rfl, Z2, hm2, hs7⟩; have HM2 := Aside0.mk hm2; have HV := Aside0.mk hs7; clear hs7 hm2 HU HB2)
                first | go_end0 | (go_wp2; refine bodyPost_ret (results_none rfl _ _ _) rfl ?_) | refine bodyPost_ret (results_none rfl _ _ _) rfl ?_
                exact ⟨rfl, Z1 ++ Z2, HM.out _ _ HM1.out HM2.out, by have := HV.out; simpa only [List.append_assoc] using this⟩
              · have r0 : decide ((i : Int) < (m : Int)) = true := decide_eq_true (by omega)
                have s0 : decide (i < m) = true := decide_eq_true (by omega)
                have r1 : decide ((m : Int) < (en : Int)) = true := decide_eq_true (by omega)
                have s1 : decide (m < en) = true := decide_eq_true (by omega)
                have r2 : decide ((a : Int) < (i : Int)) = true := decide_eq_true (by omega)
                have s2 : decide (a < i) = true := decide_eq_true (by omega)
                have r3 : decide ((i : Int) < (mid : Int)) = true := decide_eq_true (by omega)
                have s3 : decide (i < mid) = true := decide_eq_true (by omega)
                have r4 : decide ((mid : Int) < (en : Int)) = true := decide_eq_true (by omega)
                have s4 : decide (mid < en) = true := decide_eq_true (by omega)
                have r5 : decide ((en : Int) < (b : Int)) = false := decide_eq_false (by omega)
                have s5 : decide (en < b) = false := decide_eq_false (by omega)
                have HR := Aside0.mk (HRR.out (by have := HL.out; omega) (by have := HL.out; omega))
                have HA := Aside0.mk (HR1.out (by have := HL.out; omega) (by have := HL.out; omega))
                have HEY2 : Aside0 (Y2 = []) := ⟨List.eq_nil_of_length_eq_zero (by have := HL.out; omega)⟩
                clear HRR HR1 HR2 h0 h1 h2 h3
                go_wp2_with (go_at_call 78; refine (HR.out _ HS0.out).mono ?_; rintro e w5 ⟨rfl, hs5⟩; have HT := Aside0.mk hs5; clear hs5 HS0 HR)
                go_wp2_with (go_at_call 60; refine (HA.out _ HT.out).mono ?_; rintro e w6 ⟨rfl, Z1, hm1, hs6⟩; have HM1 := Aside0.mk hm1; have HU := Aside0.mk hs6; clear hs6 hm1 HT HA)
                have HM2 : Aside0 (Mrg cf X2 Y2 (X2 ++ Y2)) := ⟨by rw [HEY2.out]; first | exact Mrg.nil_left HSR.out.2.2.2 | (rw [List.append_nil]; exact Mrg.nil_right HSR.out.2.1)⟩
                obtain ⟨Z2, hZ2⟩ : ∃ Z2, Z2 = X2 ++ Y2 := ⟨_, rfl⟩
                have HV : Aside0 (SR w0 g H (P ++ Z1 ++ Z2 ++ Q) _) := ⟨by have := HU.out; rw [hZ2]; simpa only [List.append_assoc] using this⟩
                rw [← hZ2] at HM2
                clear hZ2 HU
                first | go_end0 | (go_wp2; refine bodyPost_ret (results_none rfl _ _ _) rfl ?_) | refine bodyPost_ret (results_none rfl _ _ _) rfl ?_
                exact ⟨rfl, Z1 ++ Z2, HM.out _ _ HM1.out HM2.out, by have := HV.out; simpa only [List.append_assoc] using this⟩
            · by_cases h3 : en < b
              · have r0 : decide ((i : Int) < (m : Int)) = true := decide_eq_true (by omega)
                have s0 : decide (i < m) = true := decide_eq_true (by omega)
                have r1 : decide ((m : Int) < (en : Int)) = false := decide_eq_false (by omega)
                have s1 : decide (m < en) = false := decide_eq_false (by omega)
                have r2 : decide ((a : Int) < (i : Int)) = true := decide_eq_true (by omega)
                have s2 : decide (a < i) = true := decide_eq_true (by omega)
                have r3 : decide ((i : Int) < (mid : Int)) = false := decide_eq_false (by omega)
                have s3 : decide (i < mid) = false := decide_eq_false (by omega)
                have r4 : decide ((mid : Int) < (en : Int)) = true := decide_eq_true (by omega)
                have s4 : decide (mid < en) = true := decide_eq_true (by omega)
                have r5 : decide ((en : Int) < (b : Int)) = true := decide_eq_true (by omega)
                have s5 : decide (en < b) = true := decide_eq_true (by omega)
                have HT : Aside0 (SR w0 g H (P ++ X1 ++ Y1 ++ X2 ++ Y2 ++ Q) wr) := ⟨by have := HS0.out; have e : Y1 = [] := List.eq_nil_of_length_eq_zero (by have := HL.out; omega); simpa [e] using this⟩
                have HB := Aside0.mk (HR2.out (by have := HL.out; omega) (by have := HL.out; omega))
                have HEY1 : Aside0 (Y1 = []) := ⟨List.eq_nil_of_length_eq_zero (by have := HL.out; omega)⟩
                clear HRR HR1 HR2 h0 h1 h2 h3
                have HM1 : Aside0 (Mrg cf X1 Y1 (X1 ++ Y1)) := ⟨by rw [HEY1.out]; first | exact Mrg.nil_left HSR.out.2.2.1 | (rw [List.append_nil]; exact Mrg.nil_right HSR.out.1)⟩
                obtain ⟨Z1, hZ1⟩ : ∃ Z1, Z1 = X1 ++ Y1 := ⟨_, rfl⟩
                have HU : Aside0 (SR w0 g H (P ++ Z1 ++ X2 ++ Y2 ++ Q) _) := ⟨by have := HT.out; rw [hZ1]; simpa only [List.append_assoc] using this⟩
                rw [← hZ1] at HM1
                clear hZ1 HT
                have HB2 := Aside0.mk (HB.out Z1 (by have := HM1.out.1.length_eq; rw [List.length_append] at this; have := HL.out; omega))
                clear HB
                go_wp2_with (go_at_call 60; refine (HB2.out _ HU.out).mono ?_; rintro e w7 ⟨rfl, Z2, hm2, hs7⟩; have HM2 := Aside0.mk hm2; have HV := Aside0.mk hs7; clear hs7 hm2 HU HB2)
                first | go_end0 | (go_wp2; refine bodyPost_ret (results_none rfl _ _ _) rfl ?_) | refine bodyPost_ret (results_none rfl _ _ _) rfl ?_
                exact ⟨rfl, Z1 ++ Z2, HM.out _ _ HM1.out HM2.out, by have := HV.out; simpa only [List.append_assoc] using this⟩
              · exfalso; omega
          · by_cases h2 : m < en
            · by_cases h3 : en < b
              · have r0 : decide ((i : Int) < (m : Int)) = false := decide_eq_false (by omega)
                have s0 : decide (i < m) = false := decide_eq_false (by omega)
                have r1 : decide ((m : Int) < (en : Int)) = true := decide_eq_true (by omega)
                have s1 : decide (m < en) = true := decide_eq_true (by omega)
                have r2 : decide ((a : Int) < (i : Int)) = true := decide_eq_true (by omega)
                have s2 : decide (a < i) = true := decide_eq_true (by omega)
                have r3 : decide ((i : Int) < (mid : Int)) = true := decide_eq_true (by omega)
                have s3 : decide (i < mid) = true := decide_eq_true (by omega)
                have r4 : decide ((mid : Int) < (en : Int)) = false := decide_eq_false (by omega)
                have s4 : decide (mid < en) = false := decide_eq_false (by omega)
                have r5 : decide ((en : Int) < (b : Int)) = true := decide_eq_true (by omega)
                have s5 : decide (en < b) = true := decide_eq_true (by omega)
                have HT : Aside0 (SR w0 g H (P ++ X1 ++ Y1 ++ X2 ++ Y2 ++ Q) wr) := ⟨by have := HS0.out; have e : X2 = [] := List.eq_nil_of_length_eq_zero (by have := HL.out; omega); simpa [e] using this⟩
                have HA := Aside0.mk (HR1.out (by have := HL.out; omega) (by have := HL.out; omega))
                have HEX2 : Aside0 (X2 = []) := ⟨List.eq_nil_of_length_eq_zero (by have := HL.out; omega)⟩
                clear HRR HR1 HR2 h0 h1 h2 h3
                go_wp2_with (go_at_call 60; refine (HA.out _ HT.out).mono ?_; rintro e w6 ⟨rfl, Z1, hm1, hs6⟩; have HM1 := Aside0.mk hm1; have HU := Aside0.mk hs6; clear hs6 hm1 HT HA)
                have HM2 : Aside0 (Mrg cf X2 Y2 (X2 ++ Y2)) := ⟨by rw [HEX2.out]; first | exact Mrg.nil_left HSR.out.2.2.2 | (rw [List.append_nil]; exact Mrg.nil_right HSR.out.2.1)⟩
                obtain ⟨Z2, hZ2⟩ : ∃ Z2, Z2 = X2 ++ Y2 := ⟨_, rfl⟩
                have HV : Aside0 (SR w0 g H (P ++ Z1 ++ Z2 ++ Q) _) := ⟨by have := HU.out; rw [hZ2]; simpa only [List.append_assoc] using this⟩
                rw [← hZ2] at HM2
                clear hZ2 HU
                first | go_end0 | (go_wp2; refine bodyPost_ret (results_none rfl _ _ _) rfl ?_) | refine bodyPost_ret (results_none rfl _ _ _) rfl ?_
                exact ⟨rfl, Z1 ++ Z2, HM.out _ _ HM1.out HM2.out, by have := HV.out; simpa only [List.append_assoc] using this⟩
              · exfalso; omega
            · by_cases h3 : en < b
              · have r0 : decide ((i : Int) < (m : Int)) = false := decide_eq_false (by omega)
                have s0 : decide (i < m) = false := decide_eq_false (by omega)
                have r1 : decide ((m : Int) < (en : Int)) = false := decide_eq_false (by omega)
                have s1 : decide (m < en) = false := decide_eq_false (by omega)
                have r2 : decide ((a : Int) < (i : Int)) = true := decide_eq_true (by omega)
                have s2 : decide (a < i) = true := decide_eq_true (by omega)
                have r3 : decide ((i : Int) < (mid : Int)) = false := decide_eq_false (by omega)
                have s3 : decide (i < mid) = false := decide_eq_false (by omega)
                have r4 : decide ((mid : Int) < (en : Int)) = false := decide_eq_false (by omega)
                have s4 : decide (mid < en) = false := decide_eq_false (by omega)
                have r5 : decide ((en : Int) < (b : Int)) = true := decide_eq_true (by omega)
                have s5 : decide (en < b) = true := decide_eq_true (by omega)
                have HT : Aside0 (SR w0 g H (P ++ X1 ++ Y1 ++ X2 ++ Y2 ++ Q) wr) := ⟨by have := HS0.out; have e : X2 = [] := List.eq_nil_of_length_eq_zero (by have := HL.out; omega); simpa [e] using this⟩
                have HEX2 : Aside0 (X2 = []) := ⟨List.eq_nil_of_length_eq_zero (by have := HL.out; omega)⟩
                have HEY1 : Aside0 (Y1 = []) := ⟨List.eq_nil_of_length_eq_zero (by have := HL.out; omega)⟩
                clear HRR HR1 HR2 h0 h1 h2 h3
                have HM1 : Aside0 (Mrg cf X1 Y1 (X1 ++ Y1)) := ⟨by rw [HEY1.out]; first | exact Mrg.nil_left HSR.out.2.2.1 | (rw [List.append_nil]; exact Mrg.nil_right HSR.out.1)⟩
                obtain ⟨Z1, hZ1⟩ : ∃ Z1, Z1 = X1 ++ Y1 := ⟨_, rfl⟩
                have HU : Aside0 (SR w0 g H (P ++ Z1 ++ X2 ++ Y2 ++ Q) _) := ⟨by have := HT.out; rw [hZ1]; simpa only [List.append_assoc] using this⟩
                rw [← hZ1] at HM1
                clear hZ1 HT
                have HM2 : Aside0 (Mrg cf X2 Y2 (X2 ++ Y2)) := ⟨by rw [HEX2.out]; first | exact Mrg.nil_left HSR.out.2.2.2 | (rw [List.append_nil]; exact Mrg.nil_right HSR.out.2.1)⟩
                obtain ⟨Z2, hZ2⟩ : ∃ Z2, Z2 = X2 ++ Y2 := ⟨_, rfl⟩
                have HV : Aside0 (SR w0 g H (P ++ Z1 ++ Z2 ++ Q) _) := ⟨by have := HU.out; rw [hZ2]; simpa only [List.append_assoc] using this⟩
                rw [← hZ2] at HM2
                clear hZ2 HU
                go_wp2
                first | go_end0 | (go_wp2; refine bodyPost_ret (results_none rfl _ _ _) rfl ?_) | refine bodyPost_ret (results_none rfl _ _ _) rfl ?_
                exact ⟨rfl, Z1 ++ Z2, HM.out _ _ HM1.out HM2.out, by have := HV.out; simpa only [List.append_assoc] using this⟩
              · exfalso; omega
        · by_cases h1 : i < m
          · by_cases h2 : m < en
            · by_cases h3 : en < b
              · have r0 : decide ((i : Int) < (m : Int)) = true := decide_eq_true (by omega)
                have s0 : decide (i < m) = true := decide_eq_true (by omega)
                have r1 : decide ((m : Int) < (en : Int)) = true := decide_eq_true (by omega)
                have s1 : decide (m < en) = true := decide_eq_true (by omega)
                have r2 : decide ((a : Int) < (i : Int)) = false := decide_eq_false (by omega)
                have s2 : decide (a < i) = false := decide_eq_false (by omega)
                have r3 : decide ((i : Int) < (mid : Int)) = true := decide_eq_true (by omega)
                have s3 : decide (i < mid) = true := decide_eq_true (by omega)
                have r4 : decide ((mid : Int) < (en : Int)) = true := decide_eq_true (by omega)
                have s4 : decide (mid < en) = true := decide_eq_true (by omega)
                have r5 : decide ((en : Int) < (b : Int)) = true := decide_eq_true (by omega)
                have s5 : decide (en < b) = true := decide_eq_true (by omega)
                have HR := Aside0.mk (HRR.out (by have := HL.out; omega) (by have := HL.out; omega))
                have HB := Aside0.mk (HR2.out (by have := HL.out; omega) (by have := HL.out; omega))
                have HEX1 : Aside0 (X1 = []) := ⟨List.eq_nil_of_length_eq_zero (by have := HL.out; omega)⟩
                clear HRR HR1 HR2 h0 h1 h2 h3
                go_wp2_with (go_at_call 78; refine (HR.out _ HS0.out).mono ?_; rintro e w5 ⟨rfl, hs5⟩; have HT := Aside0.mk hs5; clear hs5 HS0 HR)
                have HM1 : Aside0 (Mrg cf X1 Y1 (X1 ++ Y1)) := ⟨by rw [HEX1.out]; first | exact Mrg.nil_left HSR.out.2.2.1 | (rw [List.append_nil]; exact Mrg.nil_right HSR.out.1)⟩
                obtain ⟨Z1, hZ1⟩ : ∃ Z1, Z1 = X1 ++ Y1 := ⟨_, rfl⟩
                have HU : Aside0 (SR w0 g H (P ++ Z1 ++ X2 ++ Y2 ++ Q) _) := ⟨by have := HT.out; rw [hZ1]; simpa only [List.append_assoc] using this⟩
                rw [← hZ1] at HM1
                clear hZ1 HT
                have HB2 := Aside0.mk (HB.out Z1 (by have := HM1.out.1.length_eq; rw [List.length_append] at this; have := HL.out; omega))
                clear HB
                go_wp2_with (go_at_call 60; refine (HB2.out _ HU.out).mono ?_; rintro e w7 ⟨rfl, Z2, hm2, hs7⟩; have HM2 := Aside0.mk hm2; have HV := Aside0.mk hs7; clear hs7 hm2 HU HB2)
                first | go_end0 | (go_wp2; refine bodyPost_ret (results_none rfl _ _ _) rfl ?_) | refine bodyPost_ret (results_none rfl _ _ _) rfl ?_
                exact ⟨rfl, Z1 ++ Z2, HM.out _ _ HM1.out HM2.out, by have := HV.out; simpa only [List.append_assoc] using this⟩
              · have r0 : decide ((i : Int) < (m : Int)) = true := decide_eq_true (by omega)
                have s0 : decide (i < m) = true := decide_eq_true (by omega)
                have r1 : decide ((m : Int) < (en : Int)) = true := decide_eq_true (by omega)
                have s1 : decide (m < en) = true := decide_eq_true (by omega)
                have r2 : decide ((a : Int) < (i : Int)) = false := decide_eq_false (by omega)
                have s2 : decide (a < i) = false := decide_eq_false (by omega)
                have r3 : decide ((i : Int) < (mid : Int)) = true := decide_eq_true (by omega)
                have s3 : decide (i < mid) = true := decide_eq_true (by omega)
                have r4 : decide ((mid : Int) < (en : Int)) = true := decide_eq_true (by omega)
                have s4 : decide (mid < en) = true := decide_eq_true (by omega)
                have r5 : decide ((en : Int) < (b : Int)) = false := decide_eq_false (by omega)
                have s5 : decide (en < b) = false := decide_eq_false (by omega)
                have HR := Aside0.mk (HRR.out (by have := HL.out; omega) (by have := HL.out; omega))
                have HEX1 : Aside0 (X1 = []) := ⟨List.eq_nil_of_length_eq_zero (by have := HL.out; omega)⟩
                have HEY2 : Aside0 (Y2 = []) := ⟨List.eq_nil_of_length_eq_zero (by have := HL.out; omega)⟩
                clear HRR HR1 HR2 h0 h1 h2 h3
                go_wp2_with (go_at_call 78; refine (HR.out _ HS0.out).mono ?_; rintro e w5 ⟨rfl, hs5⟩; have HT := Aside0.mk hs5; clear hs5 HS0 HR)
                have HM1 : Aside0 (Mrg cf X1 Y1 (X1 ++ Y1)) := ⟨by rw [HEX1.out]; first | exact Mrg.nil_left HSR.out.2.2.1 | (rw [List.append_nil]; exact Mrg.nil_right HSR.out.1)⟩
                obtain ⟨Z1, hZ1⟩ : ∃ Z1, Z1 = X1 ++ Y1 := ⟨_, rfl⟩
                have HU : Aside0 (SR w0 g H (P ++ Z1 ++ X2 ++ Y2 ++ Q) _) := ⟨by have := HT.out; rw [hZ1]; simpa only [List.append_assoc] using this⟩
                rw [← hZ1] at HM1
                clear hZ1 HT
                have HM2 : Aside0 (Mrg cf X2 Y2 (X2 ++ Y2)) := ⟨by rw [HEY2.out]; first | exact Mrg.nil_left HSR.out.2.2.2 | (rw [List.append_nil]; exact Mrg.nil_right HSR.out.2.1)⟩
                obtain ⟨Z2, hZ2⟩ : ∃ Z2, Z2 = X2 ++ Y2 := ⟨_, rfl⟩
                have HV : Aside0 (SR w0 g H (P ++ Z1 ++ Z2 ++ Q) _) := ⟨by have := HU.out; rw [hZ2]; simpa only [List.append_assoc] using this⟩
                rw [← hZ2] at HM2
                clear hZ2 HU
                first | go_end0 | (go_wp2; refine bodyPost_ret (results_none rfl _ _ _) rfl ?_) | refine bodyPost_ret (results_none rfl _ _ _) rfl ?_
                exact ⟨rfl, Z1 ++ Z2, HM.out _ _ HM1.out HM2.out, by have := HV.out; simpa only [List.append_assoc] using this⟩
            · by_cases h3 : en < b
              · exfalso; omega
              · exfalso; omega
          · by_cases h2 : m < en
            · by_cases h3 : en < b
              · exfalso; omega
              · exfalso; omega
            · by_cases h3 : en < b
              · exfalso; omega
              · exfalso; omega
end Go.Proofs.Ythpoeljnmdjjiaa.Srt
