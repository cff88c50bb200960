/-
  Several texts in one (by wip/gprint/mergeh.py), in their order.
-/
import Derived.Test.YthpoeljnmdjjiaaStX
import Derived.Outline
import Derived.Shelf.SlSortCmp.Whole1
import Derived.Test.YthpoeljnmdjjiaaProg
import Derived.KernelRfl
section
/-
  Sorting, by hand: slices.symMergeCmpFunc with two or more on both sides; and all of it.
-/
namespace Go.Proofs.Ythpoeljnmdjjiaa.Srt
open Go.RowKit Go.Proofs.YthpoeljnmdjjiaaW.PrintWords Go.Proofs.YthpoeljnmdjjiaaW.PrintLast Go.Proofs.YthpoeljnmdjjiaaW.PrintMore
set_option linter.unusedVariables false
set_option linter.unusedSimpArgs false
variable {cf : Nat → Nat → Int}

/-- What symMerge is asked to do, of rows of N elements or fewer. -/
def SymOK (cf : Nat → Nat → Int) (H : Nat → Hd) (w0 : World) (g cap : Nat) (f : Nat) (cb : Array Value) (n N : Nat) : Prop :=
  ∀ (P X Y Q : List Nat) (a m b : Nat) (w : World), (P ++ X ++ Y ++ Q).length = n → a = P.length → m = P.length + X.length → b = P.length + X.length + Y.length → 0 < X.length → 0 < Y.length → X.length + Y.length ≤ N → Srd cf X → Srd cf Y → (∀ x ∈ X, ∀ y ∈ Y, x < y) →
    SR w0 g H (P ++ X ++ Y ++ Q) w → Calls Try.prog 60 #[.slice (some ⟨g, 0, none⟩) n cap, .int .i64 a, .int .i64 m, .int .i64 b, .func (.func f) #[] cb] w fun e w' => e = .returned (.tuple #[]) ∧ ∃ Z, Mrg cf X Y Z ∧ SR w0 g H (P ++ Z ++ Q) w'

set_option maxHeartbeats 1000000 in
set_option maxRecDepth 100000 in
theorem symMerge_mid (C : Cf cf) (H : Nat → Hd) (w0 : World) (g cap : Nat) (f : Nat) (cb : Array Value) (ef : ∀ args w, (callFunc f args).run Try.prog w = .ok (.enter f args) w) (hcmp : CmpOK w0 g H f cb cf) (N n : Nat) (hl : n ≤ 1000000) (hrec : SymOK cf H w0 g cap f cb n N)
    (P X Y Q : List Nat) (a m b : Nat) (w : World) (hn : (P ++ X ++ Y ++ Q).length = n) (ha : a = P.length) (hm : m = P.length + X.length) (hb : b = P.length + X.length + Y.length) (hX : 1 < X.length) (hY : 1 < Y.length) (hN : X.length + Y.length = N + 1) (hs : Srd cf X) (hs2 : Srd cf Y) (hx : ∀ x ∈ X, ∀ y ∈ Y, x < y)
    (h : SR w0 g H (P ++ X ++ Y ++ Q) w) :
    Calls Try.prog 60 #[.slice (some ⟨g, 0, none⟩) n cap, .int .i64 a, .int .i64 m, .int .i64 b, .func (.func f) #[] cb] w fun e w' => e = .returned (.tuple #[]) ∧ ∃ Z, Mrg cf X Y Z ∧ SR w0 g H (P ++ Z ++ Q) w' := by
  have hlen : P.length + X.length + Y.length + Q.length = n := by rw [← hn]; simp only [List.length_append]
  have hbn : a + 1 < m ∧ m + 1 < b ∧ b ≤ n := by omega
  have HPL : Aside0 (P.length = a ∧ a + X.length = m ∧ m + Y.length = b) := ⟨by omega⟩
  have HNN := Aside0.mk hlen
  have H0 := Aside0.mk h
  have HCMP := Aside0.mk hcmp
  have HREC := Aside0.mk hrec
  have q0 : ((m : Int) - (a : Int) == 1) = false := by rw [beq_eq_false_iff_ne]; omega
  have q1 : ((b : Int) - (m : Int) == 1) = false := by rw [beq_eq_false_iff_ne]; omega
  obtain ⟨mid, hmid⟩ : ∃ mid : Nat, ((a : Int) + (b : Int)) / 2 = (mid : Int) := ⟨(a + b) / 2, by omega⟩
  have hmm : a < mid ∧ mid < b := by omega
  clear h hn hcmp hlen hrec hm ha hb
  by_cases hmc : mid < m
  · have q2 : decide ((m : Int) > (mid : Int)) = true := decide_eq_true (by omega)
    have q3 : decide ((mid : Int) < (m : Int)) = true := decide_eq_true (by omega)
    go_enter Try.func60, Try.ntmps60
    go_wp2
    have HI0 : Aside0 (∀ c, (mid + m - b) ≤ c → c < (mid + m - b) → Ah cf (X.getD (c - a) 0) (Y.getD (mid - 1 - c) 0)) := ⟨fun c _ _ => by omega⟩
    have HJ0 : Aside0 (∀ c, mid ≤ c → c < mid → Ah cf (Y.getD (mid - 1 - c) 0) (X.getD (c - a) 0)) := ⟨fun c _ _ => by omega⟩
    go_loopw [20, 21] (fun v20 v21 wr => ∃ (i j : Nat), v20 = .int .i64 i ∧ v21 = .int .i64 j ∧ (mid + m - b) ≤ i ∧ i ≤ j ∧ j ≤ mid ∧ Aside0 (SR w0 g H (P ++ X ++ Y ++ Q) wr) ∧ Aside0 (∀ c, (mid + m - b) ≤ c → c < i → Ah cf (X.getD (c - a) 0) (Y.getD (mid - 1 - c) 0)) ∧ Aside0 (∀ c, j ≤ c → c < mid → Ah cf (Y.getD (mid - 1 - c) 0) (X.getD (c - a) 0))) (fun v20 v21 _ => (intOf v21).toNat - (intOf v20).toNat)
    case atStart => exact ⟨(mid + m - b), mid, by first | rfl | (congr 1; omega), rfl, Nat.le_refl _, by omega, Nat.le_refl _, H0, HI0, HJ0⟩
    case round =>
      clear H0 HI0 HJ0
      obtain ⟨i, j, rfl, rfl, hai, hij, hjb, HS, HI, HJ⟩ := hrel
      by_cases hlt : i < j
      · have q4 : decide ((i : Int) < (j : Int)) = true := decide_eq_true (by omega)
        have q5 : decide (i < j) = true := decide_eq_true hlt
        obtain ⟨h, hh⟩ : ∃ h : Nat, ((i : Int) + (j : Int)) / 2 = (h : Int) := ⟨(i + j) / 2, by omega⟩
        have hih : i ≤ h ∧ h < j := by omega
        obtain ⟨q, hq⟩ : ∃ q : Nat, (mid : Int) + (m : Int) - 1 - (h : Int) = (q : Int) := ⟨mid + m - 1 - h, by omega⟩
        obtain ⟨cx, hcx⟩ : ∃ c, h = a + c := ⟨h - a, by omega⟩
        obtain ⟨cy, hcy⟩ : ∃ c, mid - 1 - h = c := ⟨_, rfl⟩
        have hqm : q = m + cy := by omega
        have hcX : cx < X.length := by have := HPL.out; omega
        have hcY : cy < Y.length := by have := HPL.out; omega
        have gx : (P ++ X ++ Y ++ Q).getD h 0 = X.getD cx 0 := by
          have e : P ++ X ++ Y ++ Q = P ++ X ++ (Y ++ Q) := by simp only [List.append_assoc]
          rw [hcx, e]; exact getD_X P X _ a cx HPL.out.1 hcX
        have gy : (P ++ X ++ Y ++ Q).getD q 0 = Y.getD cy 0 := by
          have l : (P ++ X).length = m := by rw [List.length_append, HPL.out.1]; exact HPL.out.2.1
          rw [hqm]; exact getD_X (P ++ X) Y Q m cy l hcY
        have hxy : X.getD cx 0 < Y.getD cy 0 := hx _ (by rw [List.getD_eq_getElem?_getD, List.getElem?_eq_getElem hcX]; exact List.getElem_mem _) _ (by rw [List.getD_eq_getElem?_getD, List.getElem?_eq_getElem hcY]; exact List.getElem_mem _)
        have hlen2 : h < (P ++ X ++ Y ++ Q).length ∧ q < (P ++ X ++ Y ++ Q).length := by
          have e1 := HPL.out
          simp only [List.length_append]
          omega
        have hXs := srd_at hs hcX
        have hYs := srd_at hs2 hcY
        obtain ⟨x, hxc⟩ : ∃ x, X.getD cx 0 = x := ⟨_, rfl⟩
        obtain ⟨y, hyc⟩ : ∃ y, Y.getD cy 0 = y := ⟨_, rfl⟩
        have HXC := Aside0.mk hxc
        have HYC := Aside0.mk hyc
        rw [hxc] at gx hxy hXs
        rw [hyc] at gy hxy hYs
        clear hxc hyc
        obtain ⟨x1, x2, x3, hHx⟩ : ∃ a b c, H x = (a, b, c) := ⟨_, _, _, rfl⟩
        obtain ⟨y1, y2, y3, hHy⟩ : ∃ a b c, H y = (a, b, c) := ⟨_, _, _, rfl⟩
        have hfacts : ∀ w1, Below wr.heap.size wr w1 → SR w0 g H (P ++ X ++ Y ++ Q) w1 ∧ w1.cell? ⟨g, q, none⟩ = some (.slice y1 y2 y3) ∧ w1.cell? ⟨g, h, none⟩ = some (.slice x1 x2 x3) := fun w1 hb => by
          have h1 := HS.out.later hb
          have c1 := h1.cell q hlen2.2
          have c2 := h1.cell h hlen2.1
          rw [gy, hHy] at c1
          rw [gx, hHx] at c2
          exact ⟨h1, c1, c2⟩
        have HF := Aside0.mk hfacts
        have HC : Aside0 (∀ w1, Below wr.heap.size wr w1 → Calls Try.prog f (#[.slice y1 y2 y3, .slice x1 x2 x3] ++ cb) w1 fun e w' => e = .returned (.int .i64 (cf y x)) ∧ Below w1.heap.size w1 w') := ⟨fun w1 hb => by
          have h1 := (hfacts w1 hb).1
          have := HCMP.out y x w1 h1.below h1.keep
          simpa only [hHx, hHy, hdr] using this⟩
        have p1 : (0 ≤ (h : Int)) = True := eq_true (by omega)
        have p2 : ((h : Int) < (n : Int)) = True := eq_true (by omega)
        have p3 : (0 ≤ (q : Int)) = True := eq_true (by omega)
        have p4 : ((q : Int) < (n : Int)) = True := eq_true (by omega)
        have p5 : (h < n) = True := eq_true (by omega)
        have p6 : (q < n) = True := eq_true (by omega)
        have p7 : IntKind.i64.wrap (q : Int) = (q : Int) := wrap_nat (by omega)
        have HXS := Aside0.mk hXs
        have HYS := Aside0.mk hYs
        have Hcx := Aside0.mk hcx
        have Hcy := Aside0.mk hcy
        have Hxy := Aside0.mk hxy
        have HD := Aside0.mk (below_drew (Below.refl wr.heap.size wr))
        have HCX := Aside0.mk hcX
        have HCY := Aside0.mk hcY
        clear gx gy hlen2 hXs hYs hfacts HS hcx hcy hxy hcX hcY hqm
        go_upto_region 35 with (fail)
        clear hh
        refine start_ (n := 14) (S := fun w' => (w'.cell? ⟨g, q, none⟩ = some (.slice y1 y2 y3) ∧ w'.cell? ⟨g, h, none⟩ = some (.slice x1 x2 x3))) (ds := []) #[false, false, false, false, false, false, false, false, false, false, false, false, false, false] (by kernel_rfl) rfl rfl ((HF.out wr.drew HD.out).2) (fun hHeld => ?_)
        refine pure_ (i := 0) (N := some 158) (v := ?_) (a' := ?_) #[true, false, false, false, false, false, false, false, false, false, false, false, false, false] rfl rfl (by kernel_rfl) (fun _ _ _ h => h) (Or.inl ⟨by rfl, ?_⟩) ?_ ?_
        rotate_left
        · intro w'
          go_simp
          with_reducible rfl
        rotate_left
        · simp only [Act.put, List.setIfInBounds_toArray, List.set_cons_zero, List.set_cons_succ]
          rfl
        refine pure_ (i := 1) (N := some 159) (v := ?_) (a' := ?_) #[true, true, false, false, false, false, false, false, false, false, false, false, false, false] rfl rfl (by kernel_rfl) (fun _ _ _ h => h) (Or.inl ⟨by rfl, ?_⟩) ?_ ?_
        rotate_left
        · intro w'
          go_simp
          with_reducible rfl
        rotate_left
        · simp only [Act.put, List.setIfInBounds_toArray, List.set_cons_zero, List.set_cons_succ]
          rfl
        refine pure_ (i := 2) (N := some 160) (v := ?_) (a' := ?_) #[true, true, true, false, false, false, false, false, false, false, false, false, false, false] rfl rfl (by kernel_rfl) (fun _ _ _ h => h) (Or.inl ⟨by rfl, ?_⟩) ?_ ?_
        rotate_left
        · intro w'
          go_simp
          with_reducible rfl
        rotate_left
        · simp only [Act.put, List.setIfInBounds_toArray, List.set_cons_zero, List.set_cons_succ]
          rfl
        refine pure_ (i := 3) (N := some 161) (v := ?_) (a' := ?_) #[true, true, true, true, false, false, false, false, false, false, false, false, false, false] rfl rfl (by kernel_rfl) (fun _ _ _ h => h) (Or.inl ⟨by rfl, ?_⟩) ?_ ?_
        rotate_left
        · intro w'
          go_simp
          with_reducible rfl
        rotate_left
        · simp only [Act.put, List.setIfInBounds_toArray, List.set_cons_zero, List.set_cons_succ]
          rfl
        refine pure_ (i := 4) (N := some 162) (v := ?_) (a' := ?_) #[true, true, true, true, true, false, false, false, false, false, false, false, false, false] rfl rfl (by kernel_rfl) (fun _ _ _ h => h) (Or.inl ⟨by rfl, ?_⟩) ?_ ?_
        rotate_left
        · intro w'
          go_simp
          with_reducible rfl
        rotate_left
        · simp only [Act.put, List.setIfInBounds_toArray, List.set_cons_zero, List.set_cons_succ]
          rfl
        refine pure_ (i := 5) (N := some 163) (v := ?_) (a' := ?_) #[true, true, true, true, true, true, false, false, false, false, false, false, false, false] rfl rfl (by kernel_rfl) (fun _ _ _ h => h) (Or.inl ⟨by rfl, ?_⟩) ?_ ?_
        rotate_left
        · intro w'
          go_simp
          with_reducible rfl
        rotate_left
        · simp only [Act.put, List.setIfInBounds_toArray, List.set_cons_zero, List.set_cons_succ]
          rfl
        refine take_ (i := 6) (N := some 164) (v := ?_) (a' := ?_) #[true, true, true, true, true, true, true, false, false, false, false, false, false, false] rfl rfl (by kernel_rfl) (fun _ _ _ h => h) (Or.inl ⟨by rfl, ?_⟩) hHeld ?_ ?_
        rotate_left
        · rintro w' ⟨s0, s1⟩
          go_simp
          with_reducible rfl
        rotate_left
        · simp only [Act.put, List.setIfInBounds_toArray, List.set_cons_zero, List.set_cons_succ]
          rfl
        refine pure_ (i := 7) (N := some 165) (v := ?_) (a' := ?_) #[true, true, true, true, true, true, true, true, false, false, false, false, false, false] rfl rfl (by kernel_rfl) (fun _ _ _ h => h) (Or.inl ⟨by rfl, ?_⟩) ?_ ?_
        rotate_left
        · intro w'
          go_simp
          with_reducible rfl
        rotate_left
        · simp only [Act.put, List.setIfInBounds_toArray, List.set_cons_zero, List.set_cons_succ]
          rfl
        refine pure_ (i := 8) (N := some 166) (v := ?_) (a' := ?_) #[true, true, true, true, true, true, true, true, true, false, false, false, false, false] rfl rfl (by kernel_rfl) (fun _ _ _ h => h) (Or.inl ⟨by rfl, ?_⟩) ?_ ?_
        rotate_left
        · intro w'
          go_simp
          with_reducible rfl
        rotate_left
        · simp only [Act.put, List.setIfInBounds_toArray, List.set_cons_zero, List.set_cons_succ]
          rfl
        refine pure_ (i := 9) (N := some 167) (v := ?_) (a' := ?_) #[true, true, true, true, true, true, true, true, true, true, false, false, false, false] rfl rfl (by kernel_rfl) (fun _ _ _ h => h) (Or.inl ⟨by rfl, ?_⟩) ?_ ?_
        rotate_left
        · intro w'
          go_simp
          with_reducible rfl
        rotate_left
        · simp only [Act.put, List.setIfInBounds_toArray, List.set_cons_zero, List.set_cons_succ]
          rfl
        refine take_ (i := 10) (N := some 168) (v := ?_) (a' := ?_) #[true, true, true, true, true, true, true, true, true, true, true, false, false, false] rfl rfl (by kernel_rfl) (fun _ _ _ h => h) (Or.inl ⟨by rfl, ?_⟩) hHeld ?_ ?_
        rotate_left
        · rintro w' ⟨s0, s1⟩
          go_simp
          with_reducible rfl
        rotate_left
        · simp only [Act.put, List.setIfInBounds_toArray, List.set_cons_zero, List.set_cons_succ]
          rfl
        refine one_ (i := 11) (N := some 169) #[true, true, true, true, true, true, true, true, true, true, true, true, false, false] rfl rfl (by kernel_rfl) (by decide) (fun K hK => ?_)
        refine call_ f (#[.slice y1 y2 y3, .slice x1 x2 x3] ++ cb) (by rfl) rfl ?hrun ?_
        case hrun => have he := ef; unfold execOp; simp [resolve, Deferred.ofValue, invoke, Act.eval, he]
        (with_reducible refine (HC.out _ HD.out).mono ?_)
        rintro e w4 ⟨rfl, hb4⟩
        have HB4 := Aside0.mk hb4
        clear hb4
        refine ⟨_, rfl, ?_⟩
        refine hK.out _ _ (HF.out w4 (HD.out.trans (HB4.out.mono (Nat.le_refl _)))).2 (fun hHeld => ?_)
        clear hK K
        refine norm_ (a' := ?_) ?_ ?_
        rotate_left
        · show Act.put _ (some 169) _ = _
          simp only [Act.put, List.setIfInBounds_toArray, List.set_cons_zero, List.set_cons_succ]
          rfl
        refine pure_ (i := 12) (N := some 170) (v := ?_) (a' := ?_) #[true, true, true, true, true, true, true, true, true, true, true, true, true, false] rfl rfl (by kernel_rfl) (fun _ _ _ h => h) (Or.inl ⟨by rfl, ?_⟩) ?_ ?_
        rotate_left
        · intro w'
          go_simp
          with_reducible rfl
        rotate_left
        · simp only [Act.put, List.setIfInBounds_toArray, List.set_cons_zero, List.set_cons_succ]
          rfl
        refine pure_ (i := 13) (N := some 171) (v := ?_) (a' := ?_) #[true, true, true, true, true, true, true, true, true, true, true, true, true, true] rfl rfl (by kernel_rfl) (fun _ _ _ h => h) (Or.inl ⟨by rfl, ?_⟩) ?_ ?_
        rotate_left
        · intro w'
          go_simp
          with_reducible rfl
        rotate_left
        · simp only [Act.put, List.setIfInBounds_toArray, List.set_cons_zero, List.set_cons_succ]
          rfl
        refine done_ (by kernel_rfl) ?_
        have HD4 : Aside0 (Below wr.heap.size wr w4) := ⟨HD.out.trans (HB4.out.mono (Nat.le_refl _))⟩
        have HS4 := Aside0.mk (HF.out w4 HD4.out).1
        clear HB4 HD HC hHeld HF HD4
        by_cases hlt2 : cf y x < 0
        · have q6 : decide (cf y x < 0) = true := decide_eq_true hlt2
          have HJ2 : Aside0 (∀ c, h ≤ c → c < mid → Ah cf (Y.getD (mid - 1 - c) 0) (X.getD (c - a) 0)) := ⟨fun d hd hle => by
            have hyx := (ahead_right C Hxy.out).1 (decide_eq_true hlt2)
            have h1 := HPL.out
            have h2 := Hcx.out
            have h3 := Hcy.out
            rcases Nat.lt_or_ge h d with h4 | h4
            · exact ((HYS.out.1 _ (by omega)).trans C hyx).trans C (HXS.out.2 _ (by omega) (by omega))
            · have e1 : mid - 1 - d = cy := by omega
              have e2 : d - a = cx := by omega
              rw [e1, e2, HXC.out, HYC.out]; exact hyx⟩
          rw [q6]
          have q7 : (cf y x < 0) = True := eq_true hlt2
          clear hlt2 HJ
          go_wp2
          go_roundw
          case rel => exact ⟨i, h, rfl, by first | rfl | go_num, hai, by omega, by omega, HS4, HI, HJ2⟩
          case measure => simp [intOf]; omega
        · have q6 : decide (cf y x < 0) = false := decide_eq_false hlt2
          have HI2 : Aside0 (∀ c, (mid + m - b) ≤ c → c < h + 1 → Ah cf (X.getD (c - a) 0) (Y.getD (mid - 1 - c) 0)) := ⟨fun d hd hle => by
            have hxy := (not_ahead_right C Hxy.out).1 (decide_eq_false hlt2)
            have h1 := HPL.out
            have h2 := Hcx.out
            have h3 := Hcy.out
            rcases Nat.lt_or_ge d h with h4 | h4
            · exact ((HXS.out.1 _ (by omega)).trans C hxy).trans C (HYS.out.2 _ (by omega) (by omega))
            · have e1 : mid - 1 - d = cy := by omega
              have e2 : d - a = cx := by omega
              rw [e1, e2, HXC.out, HYC.out]; exact hxy⟩
          rw [q6]
          have q7 : (cf y x < 0) = False := eq_false hlt2
          clear hlt2 HI
          go_wp2
          go_roundw
          case rel => exact ⟨h + 1, j, by first | rfl | go_num, rfl, by omega, by omega, hjb, HS4, HI2, HJ⟩
          case measure => simp [intOf]; omega
      · have q4 : decide ((i : Int) < (j : Int)) = false := decide_eq_false (by omega)
        have q5 : decide (i < j) = false := decide_eq_false hlt
        obtain rfl : i = j := by omega
        obtain ⟨en, hen⟩ : ∃ en : Nat, (mid : Int) + (m : Int) - (i : Int) = (en : Int) := ⟨mid + m - i, by omega⟩
        have hbounds : a ≤ i ∧ i ≤ m ∧ i ≤ mid ∧ m ≤ en ∧ en ≤ b ∧ en + i = mid + m := by omega
        have c1 := cross_at C hs hs2 (i - a) (en - m) (by have := HPL.out; omega) (by have := HPL.out; omega) (fun h1 h2 => by
          have := HPL.out
          have h3 := HI.out (i - 1) (by omega) (by omega)
          rw [show mid - 1 - (i - 1) = en - m by omega, show i - 1 - a = i - a - 1 by omega] at h3
          exact h3)
        have c2 := cross_at C hs2 hs (en - m) (i - a) (by have := HPL.out; omega) (by have := HPL.out; omega) (fun h1 h2 => by
          have := HPL.out
          have h3 := HJ.out i (by omega) (by omega)
          rw [show mid - 1 - i = en - m - 1 by omega] at h3
          exact h3)
        have sX := hs.split (i - a)
        have sY := hs2.split (en - m)
        have lX1 : (X.take (i - a)).length = i - a := by rw [List.length_take]; have := HPL.out; omega
        have lX2 : (X.drop (i - a)).length = m - i := by rw [List.length_drop]; have := HPL.out; omega
        have lY1 : (Y.take (en - m)).length = en - m := by rw [List.length_take]; have := HPL.out; omega
        have lY2 : (Y.drop (en - m)).length = b - en := by rw [List.length_drop]; have := HPL.out; omega
        have eX : X = X.take (i - a) ++ X.drop (i - a) := (List.take_append_drop _ _).symm
        have eY : Y = Y.take (en - m) ++ Y.drop (en - m) := (List.take_append_drop _ _).symm
        have hnn : P.length + X.length + Y.length + Q.length = n := HNN.out
        obtain ⟨X1, hX1⟩ : ∃ X1, X1 = X.take (i - a) := ⟨_, rfl⟩
        obtain ⟨X2, hX2⟩ : ∃ X2, X2 = X.drop (i - a) := ⟨_, rfl⟩
        obtain ⟨Y1, hY1⟩ : ∃ Y1, Y1 = Y.take (en - m) := ⟨_, rfl⟩
        obtain ⟨Y2, hY2⟩ : ∃ Y2, Y2 = Y.drop (en - m) := ⟨_, rfl⟩
        rw [← hX1] at c1 sX lX1 eX
        rw [← hX2] at c2 sX lX2 eX
        rw [← hY1] at c2 sY lY1 eY
        rw [← hY2] at c1 sY lY2 eY
        have hcr := cross (by rw [← eX]; exact hs) (by rw [← eY]; exact hs2) c1 c2
        have HM : Aside0 (∀ Z1 Z2, Mrg cf X1 Y1 Z1 → Mrg cf X2 Y2 Z2 → Mrg cf X Y (Z1 ++ Z2)) := ⟨fun Z1 Z2 m1 m2 => by rw [eX, eY]; exact m1.parts m2 hcr⟩
        have HS0 : Aside0 (SR w0 g H (P ++ X1 ++ X2 ++ Y1 ++ Y2 ++ Q) wr) := ⟨by have := HS.out; rw [eX, eY] at this; simpa only [List.append_assoc] using this⟩
        have hx1 : ∀ x ∈ X1, ∀ y ∈ Y1, x < y := fun x hx' y hy' => hx x (by rw [eX]; exact List.mem_append_left _ hx') y (by rw [eY]; exact List.mem_append_left _ hy')
        have hx2 : ∀ x ∈ X2, ∀ y ∈ Y2, x < y := fun x hx' y hy' => hx x (by rw [eX]; exact List.mem_append_right _ hx') y (by rw [eY]; exact List.mem_append_right _ hy')
        have lP : P.length = a := HPL.out.1
        have lsum : a + (i - a) + (m - i) + (en - m) + (b - en) + Q.length = n := by have := HPL.out; omega
        have lNN : X.length + Y.length = b - a := by have := HPL.out; omega
        have hrec := HREC.out
        have HRR : Aside0 (0 < X2.length → 0 < Y1.length → ∀ w, SR w0 g H (P ++ X1 ++ X2 ++ Y1 ++ Y2 ++ Q) w → Calls Try.prog 78 #[.slice (some ⟨g, 0, none⟩) n cap, .int .i64 i, .int .i64 m, .int .i64 en, .func (.func f) #[] cb] w fun e w' => e = .returned (.tuple #[]) ∧ SR w0 g H (P ++ X1 ++ Y1 ++ X2 ++ Y2 ++ Q) w') := ⟨fun h1 h2 w hw => by
          have := rotate_calls H w0 g cap (P ++ X1) X2 Y1 (Y2 ++ Q) n i m en (.func (.func f) #[] cb) w (by simp only [List.length_append, lP, lX1, lX2, lY1, lY2]; omega) hl (by simp only [List.length_append, lP, lX1]; omega) (by simp only [List.length_append, lP, lX1, lX2]; omega) (by simp only [List.length_append, lP, lX1, lX2, lY1]; omega) h1 h2 (by simpa only [List.append_assoc] using hw)
          simpa only [List.append_assoc] using this⟩
        have HR1 : Aside0 (0 < X1.length → 0 < Y1.length → ∀ w, SR w0 g H (P ++ X1 ++ Y1 ++ X2 ++ Y2 ++ Q) w → Calls Try.prog 60 #[.slice (some ⟨g, 0, none⟩) n cap, .int .i64 a, .int .i64 i, .int .i64 mid, .func (.func f) #[] cb] w fun e w' => e = .returned (.tuple #[]) ∧ ∃ Z1, Mrg cf X1 Y1 Z1 ∧ SR w0 g H (P ++ Z1 ++ X2 ++ Y2 ++ Q) w') := ⟨fun h1 h2 w hw => by
          have := hrec P X1 Y1 (X2 ++ Y2 ++ Q) a i mid w (by simp only [List.length_append, lP, lX1, lX2, lY1, lY2]; omega) lP.symm (by rw [lP, lX1]; omega) (by rw [lP, lX1, lY1]; omega) h1 h2 (by rw [lX1, lY1]; omega) sX.1 sY.1 hx1 (by simpa only [List.append_assoc] using hw)
          simpa only [List.append_assoc] using this⟩
        have HR2 : Aside0 (0 < X2.length → 0 < Y2.length → ∀ Z1 : List Nat, Z1.length = mid - a → ∀ w, SR w0 g H (P ++ Z1 ++ X2 ++ Y2 ++ Q) w → Calls Try.prog 60 #[.slice (some ⟨g, 0, none⟩) n cap, .int .i64 mid, .int .i64 en, .int .i64 b, .func (.func f) #[] cb] w fun e w' => e = .returned (.tuple #[]) ∧ ∃ Z2, Mrg cf X2 Y2 Z2 ∧ SR w0 g H (P ++ Z1 ++ Z2 ++ Q) w') := ⟨fun h1 h2 Z1 lZ w hw => by
          have := hrec (P ++ Z1) X2 Y2 Q mid en b w (by simp only [List.length_append, lP, lZ, lX2, lY2]; omega) (by simp only [List.length_append, lP, lZ]; omega) (by simp only [List.length_append, lP, lZ, lX2]; omega) (by simp only [List.length_append, lP, lZ, lX2, lY2]; omega) h1 h2 (by rw [lX2, lY2]; omega) sX.2 sY.2 hx2 hw
          exact this⟩
        have HL : Aside0 (X1.length = i - a ∧ X2.length = m - i ∧ Y1.length = en - m ∧ Y2.length = b - en) := ⟨lX1, lX2, lY1, lY2⟩
        have HSR : Aside0 (Srd cf X1 ∧ Srd cf X2 ∧ Srd cf Y1 ∧ Srd cf Y2) := ⟨sX.1, sX.2, sY.1, sY.2⟩
        clear c1 c2 sX sY lX1 lX2 lY1 lY2 eX eY hcr hx1 hx2 lP lsum lNN hrec HS HI HJ hX1 hX2 hY1 hY2 hnn hs hs2 hx
        by_cases h0 : a < i
        · by_cases h1 : i < m
          · by_cases h2 : m < en
            · by_cases h3 : en < b
              · have r0 : decide ((i : Int) < (m : Int)) = true := decide_eq_true (by omega)
                have s0 : decide (i < m) = true := decide_eq_true (by omega)
                have r1 : decide ((m : Int) < (en : Int)) = true := decide_eq_true (by omega)
                have s1 : decide (m < en) = true := decide_eq_true (by omega)
                have r2 : decide ((a : Int) < (i : Int)) = true := decide_eq_true (by omega)
                have s2 : decide (a < i) = true := decide_eq_true (by omega)
                have r3 : decide ((i : Int) < (mid : Int)) = true := decide_eq_true (by omega)
                have s3 : decide (i < mid) = true := decide_eq_true (by omega)
                have r4 : decide ((mid : Int) < (en : Int)) = true := decide_eq_true (by omega)
                have s4 : decide (mid < en) = true := decide_eq_true (by omega)
                have r5 : decide ((en : Int) < (b : Int)) = true := decide_eq_true (by omega)
                have s5 : decide (en < b) = true := decide_eq_true (by omega)
                have HR := Aside0.mk (HRR.out (by have := HL.out; omega) (by have := HL.out; omega))
                have HA := Aside0.mk (HR1.out (by have := HL.out; omega) (by have := HL.out; omega))
                have HB := Aside0.mk (HR2.out (by have := HL.out; omega) (by have := HL.out; omega))
                clear HRR HR1 HR2 h0 h1 h2 h3
                go_wp2_with (go_at_call 78; refine (HR.out _ HS0.out).mono ?_; rintro e w5 ⟨rfl, hs5⟩; have HT := Aside0.mk hs5; clear hs5 HS0 HR)
                go_wp2_with (go_at_call 60; refine (HA.out _ HT.out).mono ?_; rintro e w6 ⟨rfl, Z1, hm1, hs6⟩; have HM1 := Aside0.mk hm1; have HU := Aside0.mk hs6; clear hs6 hm1 HT HA)
                have HB2 := Aside0.mk (HB.out Z1 (by have := HM1.out.1.length_eq; rw [List.length_append] at this; have := HL.out; omega))
                clear HB
                go_wp2_with (go_at_call 60; refine (HB2.out _ HU.out).mono ?_; rintro e w7 ⟨rfl, Z2, hm2, hs7⟩; have HM2 := Aside0.mk hm2; have HV := Aside0.mk hs7; clear hs7 hm2 HU HB2)
                first | go_end0 | (go_wp2; refine bodyPost_ret (results_none rfl _ _ _) rfl ?_) | refine bodyPost_ret (results_none rfl _ _ _) rfl ?_
                exact ⟨rfl, Z1 ++ Z2, HM.out _ _ HM1.out HM2.out, by have := HV.out; simpa only [List.append_assoc] using this⟩
              · have r0 : decide ((i : Int) < (m : Int)) = true := decide_eq_true (by omega)
                have s0 : decide (i < m) = true := decide_eq_true (by omega)
                have r1 : decide ((m : Int) < (en : Int)) = true := decide_eq_true (by omega)
                have s1 : decide (m < en) = true := decide_eq_true (by omega)
                have r2 : decide ((a : Int) < (i : Int)) = true := decide_eq_true (by omega)
                have s2 : decide (a < i) = true := decide_eq_true (by omega)
                have r3 : decide ((i : Int) < (mid : Int)) = true := decide_eq_true (by omega)
                have s3 : decide (i < mid) = true := decide_eq_true (by omega)
                have r4 : decide ((mid : Int) < (en : Int)) = true := decide_eq_true (by omega)
                have s4 : decide (mid < en) = true := decide_eq_true (by omega)
                have r5 : decide ((en : Int) < (b : Int)) = false := decide_eq_false (by omega)
                have s5 : decide (en < b) = false := decide_eq_false (by omega)
                have HR := Aside0.mk (HRR.out (by have := HL.out; omega) (by have := HL.out; omega))
                have HA := Aside0.mk (HR1.out (by have := HL.out; omega) (by have := HL.out; omega))
                have HEY2 : Aside0 (Y2 = []) := ⟨List.eq_nil_of_length_eq_zero (by have := HL.out; omega)⟩
                clear HRR HR1 HR2 h0 h1 h2 h3
                go_wp2_with (go_at_call 78; refine (HR.out _ HS0.out).mono ?_; rintro e w5 ⟨rfl, hs5⟩; have HT := Aside0.mk hs5; clear hs5 HS0 HR)
                go_wp2_with (go_at_call 60; refine (HA.out _ HT.out).mono ?_; rintro e w6 ⟨rfl, Z1, hm1, hs6⟩; have HM1 := Aside0.mk hm1; have HU := Aside0.mk hs6; clear hs6 hm1 HT HA)
                have HM2 : Aside0 (Mrg cf X2 Y2 (X2 ++ Y2)) := ⟨by rw [HEY2.out]; first | exact Mrg.nil_left HSR.out.2.2.2 | (rw [List.append_nil]; exact Mrg.nil_right HSR.out.2.1)⟩
                obtain ⟨Z2, hZ2⟩ : ∃ Z2, Z2 = X2 ++ Y2 := ⟨_, rfl⟩
                have HV : Aside0 (SR w0 g H (P ++ Z1 ++ Z2 ++ Q) _) := ⟨by have := HU.out; rw [hZ2]; simpa only [List.append_assoc] using this⟩
                rw [← hZ2] at HM2
                clear hZ2 HU
                first | go_end0 | (go_wp2; refine bodyPost_ret (results_none rfl _ _ _) rfl ?_) | refine bodyPost_ret (results_none rfl _ _ _) rfl ?_
                exact ⟨rfl, Z1 ++ Z2, HM.out _ _ HM1.out HM2.out, by have := HV.out; simpa only [List.append_assoc] using this⟩
            · by_cases h3 : en < b
              · have r0 : decide ((i : Int) < (m : Int)) = true := decide_eq_true (by omega)
                have s0 : decide (i < m) = true := decide_eq_true (by omega)
                have r1 : decide ((m : Int) < (en : Int)) = false := decide_eq_false (by omega)
                have s1 : decide (m < en) = false := decide_eq_false (by omega)
                have r2 : decide ((a : Int) < (i : Int)) = true := decide_eq_true (by omega)
                have s2 : decide (a < i) = true := decide_eq_true (by omega)
                have r3 : decide ((i : Int) < (mid : Int)) = false := decide_eq_false (by omega)
                have s3 : decide (i < mid) = false := decide_eq_false (by omega)
                have r4 : decide ((mid : Int) < (en : Int)) = true := decide_eq_true (by omega)
                have s4 : decide (mid < en) = true := decide_eq_true (by omega)
                have r5 : decide ((en : Int) < (b : Int)) = true := decide_eq_true (by omega)
                have s5 : decide (en < b) = true := decide_eq_true (by omega)
                have HT : Aside0 (SR w0 g H (P ++ X1 ++ Y1 ++ X2 ++ Y2 ++ Q) wr) := ⟨by have := HS0.out; have e : Y1 = [] := List.eq_nil_of_length_eq_zero (by have := HL.out; omega); simpa [e] using this⟩
                have HB := Aside0.mk (HR2.out (by have := HL.out; omega) (by have := HL.out; omega))
                have HEY1 : Aside0 (Y1 = []) := ⟨List.eq_nil_of_length_eq_zero (by have := HL.out; omega)⟩
                clear HRR HR1 HR2 h0 h1 h2 h3
                have HM1 : Aside0 (Mrg cf X1 Y1 (X1 ++ Y1)) := ⟨by rw [HEY1.out]; first | exact Mrg.nil_left HSR.out.2.2.1 | (rw [List.append_nil]; exact Mrg.nil_right HSR.out.1)⟩
                obtain ⟨Z1, hZ1⟩ : ∃ Z1, Z1 = X1 ++ Y1 := ⟨_, rfl⟩
                have HU : Aside0 (SR w0 g H (P ++ Z1 ++ X2 ++ Y2 ++ Q) _) := ⟨by have := HT.out; rw [hZ1]; simpa only [List.append_assoc] using this⟩
                rw [← hZ1] at HM1
                clear hZ1 HT
                have HB2 := Aside0.mk (HB.out Z1 (by have := HM1.out.1.length_eq; rw [List.length_append] at this; have := HL.out; omega))
                clear HB
                go_wp2_with (go_at_call 60; refine (HB2.out _ HU.out).mono ?_; rintro e w7 ⟨rfl, Z2, hm2, hs7⟩; have HM2 := Aside0.mk hm2; have HV := Aside0.mk hs7; clear hs7 hm2 HU HB2)
                first | go_end0 | (go_wp2; refine bodyPost_ret (results_none rfl _ _ _) rfl ?_) | refine bodyPost_ret (results_none rfl _ _ _) rfl ?_
                exact ⟨rfl, Z1 ++ Z2, HM.out _ _ HM1.out HM2.out, by have := HV.out; simpa only [List.append_assoc] using this⟩
              · exfalso; omega
          · by_cases h2 : m < en
            · by_cases h3 : en < b
              · have r0 : decide ((i : Int) < (m : Int)) = false := decide_eq_false (by omega)
                have s0 : decide (i < m) = false := decide_eq_false (by omega)
                have r1 : decide ((m : Int) < (en : Int)) = true := decide_eq_true (by omega)
                have s1 : decide (m < en) = true := decide_eq_true (by omega)
                have r2 : decide ((a : Int) < (i : Int)) = true := decide_eq_true (by omega)
                have s2 : decide (a < i) = true := decide_eq_true (by omega)
                have r3 : decide ((i : Int) < (mid : Int)) = true := decide_eq_true (by omega)
                have s3 : decide (i < mid) = true := decide_eq_true (by omega)
                have r4 : decide ((mid : Int) < (en : Int)) = false := decide_eq_false (by omega)
                have s4 : decide (mid < en) = false := decide_eq_false (by omega)
                have r5 : decide ((en : Int) < (b : Int)) = true := decide_eq_true (by omega)
                have s5 : decide (en < b) = true := decide_eq_true (by omega)
                have HT : Aside0 (SR w0 g H (P ++ X1 ++ Y1 ++ X2 ++ Y2 ++ Q) wr) := ⟨by have := HS0.out; have e : X2 = [] := List.eq_nil_of_length_eq_zero (by have := HL.out; omega); simpa [e] using this⟩
                have HA := Aside0.mk (HR1.out (by have := HL.out; omega) (by have := HL.out; omega))
                have HEX2 : Aside0 (X2 = []) := ⟨List.eq_nil_of_length_eq_zero (by have := HL.out; omega)⟩
                clear HRR HR1 HR2 h0 h1 h2 h3
                go_wp2_with (go_at_call 60; refine (HA.out _ HT.out).mono ?_; rintro e w6 ⟨rfl, Z1, hm1, hs6⟩; have HM1 := Aside0.mk hm1; have HU := Aside0.mk hs6; clear hs6 hm1 HT HA)
                have HM2 : Aside0 (Mrg cf X2 Y2 (X2 ++ Y2)) := ⟨by rw [HEX2.out]; first | exact Mrg.nil_left HSR.out.2.2.2 | (rw [List.append_nil]; exact Mrg.nil_right HSR.out.2.1)⟩
                obtain ⟨Z2, hZ2⟩ : ∃ Z2, Z2 = X2 ++ Y2 := ⟨_, rfl⟩
                have HV : Aside0 (SR w0 g H (P ++ Z1 ++ Z2 ++ Q) _) := ⟨by have := HU.out; rw [hZ2]; simpa only [List.append_assoc] using this⟩
                rw [← hZ2] at HM2
                clear hZ2 HU
                first | go_end0 | (go_wp2; refine bodyPost_ret (results_none rfl _ _ _) rfl ?_) | refine bodyPost_ret (results_none rfl _ _ _) rfl ?_
                exact ⟨rfl, Z1 ++ Z2, HM.out _ _ HM1.out HM2.out, by have := HV.out; simpa only [List.append_assoc] using this⟩
              · exfalso; omega
            · by_cases h3 : en < b
              · have r0 : decide ((i : Int) < (m : Int)) = false := decide_eq_false (by omega)
                have s0 : decide (i < m) = false := decide_eq_false (by omega)
                have r1 : decide ((m : Int) < (en : Int)) = false := decide_eq_false (by omega)
                have s1 : decide (m < en) = false := decide_eq_false (by omega)
                have r2 : decide ((a : Int) < (i : Int)) = true := decide_eq_true (by omega)
                have s2 : decide (a < i) = true := decide_eq_true (by omega)
                have r3 : decide ((i : Int) < (mid : Int)) = false := decide_eq_false (by omega)
                have s3 : decide (i < mid) = false := decide_eq_false (by omega)
                have r4 : decide ((mid : Int) < (en : Int)) = false := decide_eq_false (by omega)
                have s4 : decide (mid < en) = false := decide_eq_false (by omega)
                have r5 : decide ((en : Int) < (b : Int)) = true := decide_eq_true (by omega)
                have s5 : decide (en < b) = true := decide_eq_true (by omega)
                have HT : Aside0 (SR w0 g H (P ++ X1 ++ Y1 ++ X2 ++ Y2 ++ Q) wr) := ⟨by have := HS0.out; have e : X2 = [] := List.eq_nil_of_length_eq_zero (by have := HL.out; omega); simpa [e] using this⟩
                have HEX2 : Aside0 (X2 = []) := ⟨List.eq_nil_of_length_eq_zero (by have := HL.out; omega)⟩
                have HEY1 : Aside0 (Y1 = []) := ⟨List.eq_nil_of_length_eq_zero (by have := HL.out; omega)⟩
                clear HRR HR1 HR2 h0 h1 h2 h3
                have HM1 : Aside0 (Mrg cf X1 Y1 (X1 ++ Y1)) := ⟨by rw [HEY1.out]; first | exact Mrg.nil_left HSR.out.2.2.1 | (rw [List.append_nil]; exact Mrg.nil_right HSR.out.1)⟩
                obtain ⟨Z1, hZ1⟩ : ∃ Z1, Z1 = X1 ++ Y1 := ⟨_, rfl⟩
                have HU : Aside0 (SR w0 g H (P ++ Z1 ++ X2 ++ Y2 ++ Q) _) := ⟨by have := HT.out; rw [hZ1]; simpa only [List.append_assoc] using this⟩
                rw [← hZ1] at HM1
                clear hZ1 HT
                have HM2 : Aside0 (Mrg cf X2 Y2 (X2 ++ Y2)) := ⟨by rw [HEX2.out]; first | exact Mrg.nil_left HSR.out.2.2.2 | (rw [List.append_nil]; exact Mrg.nil_right HSR.out.2.1)⟩
                obtain ⟨Z2, hZ2⟩ : ∃ Z2, Z2 = X2 ++ Y2 := ⟨_, rfl⟩
                have HV : Aside0 (SR w0 g H (P ++ Z1 ++ Z2 ++ Q) _) := ⟨by have := HU.out; rw [hZ2]; simpa only [List.append_assoc] using this⟩
                rw [← hZ2] at HM2
                clear hZ2 HU
                go_wp2
                first | go_end0 | (go_wp2; refine bodyPost_ret (results_none rfl _ _ _) rfl ?_) | refine bodyPost_ret (results_none rfl _ _ _) rfl ?_
                exact ⟨rfl, Z1 ++ Z2, HM.out _ _ HM1.out HM2.out, by have := HV.out; simpa only [List.append_assoc] using this⟩
              · exfalso; omega
        · by_cases h1 : i < m
          · by_cases h2 : m < en
            · by_cases h3 : en < b
              · have r0 : decide ((i : Int) < (m : Int)) = true := decide_eq_true (by omega)
                have s0 : decide (i < m) = true := decide_eq_true (by omega)
                have r1 : decide ((m : Int) < (en : Int)) = true := decide_eq_true (by omega)
                have s1 : decide (m < en) = true := decide_eq_true (by omega)
                have r2 : decide ((a : Int) < (i : Int)) = false := decide_eq_false (by omega)
                have s2 : decide (a < i) = false := decide_eq_false (by omega)
                have r3 : decide ((i : Int) < (mid : Int)) = true := decide_eq_true (by omega)
                have s3 : decide (i < mid) = true := decide_eq_true (by omega)
                have r4 : decide ((mid : Int) < (en : Int)) = true := decide_eq_true (by omega)
                have s4 : decide (mid < en) = true := decide_eq_true (by omega)
                have r5 : decide ((en : Int) < (b : Int)) = true := decide_eq_true (by omega)
                have s5 : decide (en < b) = true := decide_eq_true (by omega)
                have HR := Aside0.mk (HRR.out (by have := HL.out; omega) (by have := HL.out; omega))
                have HB := Aside0.mk (HR2.out (by have := HL.out; omega) (by have := HL.out; omega))
                have HEX1 : Aside0 (X1 = []) := ⟨List.eq_nil_of_length_eq_zero (by have := HL.out; omega)⟩
                clear HRR HR1 HR2 h0 h1 h2 h3
                go_wp2_with (go_at_call 78; refine (HR.out _ HS0.out).mono ?_; rintro e w5 ⟨rfl, hs5⟩; have HT := Aside0.mk hs5; clear hs5 HS0 HR)
                have HM1 : Aside0 (Mrg cf X1 Y1 (X1 ++ Y1)) := ⟨by rw [HEX1.out]; first | exact Mrg.nil_left HSR.out.2.2.1 | (rw [List.append_nil]; exact Mrg.nil_right HSR.out.1)⟩
                obtain ⟨Z1, hZ1⟩ : ∃ Z1, Z1 = X1 ++ Y1 := ⟨_, rfl⟩
                have HU : Aside0 (SR w0 g H (P ++ Z1 ++ X2 ++ Y2 ++ Q) _) := ⟨by have := HT.out; rw [hZ1]; simpa only [List.append_assoc] using this⟩
                rw [← hZ1] at HM1
                clear hZ1 HT
                have HB2 := Aside0.mk (HB.out Z1 (by have := HM1.out.1.length_eq; rw [List.length_append] at this; have := HL.out; omega))
                clear HB
                go_wp2_with (go_at_call 60; refine (HB2.out _ HU.out).mono ?_; rintro e w7 ⟨rfl, Z2, hm2, hs7⟩; have HM2 := Aside0.mk hm2; have HV := Aside0.mk hs7; clear hs7 hm2 HU HB2)
                first | go_end0 | (go_wp2; refine bodyPost_ret (results_none rfl _ _ _) rfl ?_) | refine bodyPost_ret (results_none rfl _ _ _) rfl ?_
                exact ⟨rfl, Z1 ++ Z2, HM.out _ _ HM1.out HM2.out, by have := HV.out; simpa only [List.append_assoc] using this⟩
              · have r0 : decide ((i : Int) < (m : Int)) = true := decide_eq_true (by omega)
                have s0 : decide (i < m) = true := decide_eq_true (by omega)
                have r1 : decide ((m : Int) < (en : Int)) = true := decide_eq_true (by omega)
                have s1 : decide (m < en) = true := decide_eq_true (by omega)
                have r2 : decide ((a : Int) < (i : Int)) = false := decide_eq_false (by omega)
                have s2 : decide (a < i) = false := decide_eq_false (by omega)
                have r3 : decide ((i : Int) < (mid : Int)) = true := decide_eq_true (by omega)
                have s3 : decide (i < mid) = true := decide_eq_true (by omega)
                have r4 : decide ((mid : Int) < (en : Int)) = true := decide_eq_true (by omega)
                have s4 : decide (mid < en) = true := decide_eq_true (by omega)
                have r5 : decide ((en : Int) < (b : Int)) = false := decide_eq_false (by omega)
                have s5 : decide (en < b) = false := decide_eq_false (by omega)
                have HR := Aside0.mk (HRR.out (by have := HL.out; omega) (by have := HL.out; omega))
                have HEX1 : Aside0 (X1 = []) := ⟨List.eq_nil_of_length_eq_zero (by have := HL.out; omega)⟩
                have HEY2 : Aside0 (Y2 = []) := ⟨List.eq_nil_of_length_eq_zero (by have := HL.out; omega)⟩
                clear HRR HR1 HR2 h0 h1 h2 h3
                go_wp2_with (go_at_call 78; refine (HR.out _ HS0.out).mono ?_; rintro e w5 ⟨rfl, hs5⟩; have HT := Aside0.mk hs5; clear hs5 HS0 HR)
                have HM1 : Aside0 (Mrg cf X1 Y1 (X1 ++ Y1)) := ⟨by rw [HEX1.out]; first | exact Mrg.nil_left HSR.out.2.2.1 | (rw [List.append_nil]; exact Mrg.nil_right HSR.out.1)⟩
                obtain ⟨Z1, hZ1⟩ : ∃ Z1, Z1 = X1 ++ Y1 := ⟨_, rfl⟩
                have HU : Aside0 (SR w0 g H (P ++ Z1 ++ X2 ++ Y2 ++ Q) _) := ⟨by have := HT.out; rw [hZ1]; simpa only [List.append_assoc] using this⟩
                rw [← hZ1] at HM1
                clear hZ1 HT
                have HM2 : Aside0 (Mrg cf X2 Y2 (X2 ++ Y2)) := ⟨by rw [HEY2.out]; first | exact Mrg.nil_left HSR.out.2.2.2 | (rw [List.append_nil]; exact Mrg.nil_right HSR.out.2.1)⟩
                obtain ⟨Z2, hZ2⟩ : ∃ Z2, Z2 = X2 ++ Y2 := ⟨_, rfl⟩
                have HV : Aside0 (SR w0 g H (P ++ Z1 ++ Z2 ++ Q) _) := ⟨by have := HU.out; rw [hZ2]; simpa only [List.append_assoc] using this⟩
                rw [← hZ2] at HM2
                clear hZ2 HU
                first | go_end0 | (go_wp2; refine bodyPost_ret (results_none rfl _ _ _) rfl ?_) | refine bodyPost_ret (results_none rfl _ _ _) rfl ?_
                exact ⟨rfl, Z1 ++ Z2, HM.out _ _ HM1.out HM2.out, by have := HV.out; simpa only [List.append_assoc] using this⟩
            · by_cases h3 : en < b
              · exfalso; omega
              · exfalso; omega
          · by_cases h2 : m < en
            · by_cases h3 : en < b
              · exfalso; omega
              · exfalso; omega
            · by_cases h3 : en < b
              · exfalso; omega
              · exfalso; omega
  · have q2 : decide ((m : Int) > (mid : Int)) = false := decide_eq_false (by omega)
    have q3 : decide ((mid : Int) < (m : Int)) = false := decide_eq_false (by omega)
    go_enter Try.func60, Try.ntmps60
    go_wp2
    have HI0 : Aside0 (∀ c, a ≤ c → c < a → Ah cf (X.getD (c - a) 0) (Y.getD (mid - 1 - c) 0)) := ⟨fun c _ _ => by omega⟩
    have HJ0 : Aside0 (∀ c, m ≤ c → c < m → Ah cf (Y.getD (mid - 1 - c) 0) (X.getD (c - a) 0)) := ⟨fun c _ _ => by omega⟩
    go_loopw [20, 21] (fun v20 v21 wr => ∃ (i j : Nat), v20 = .int .i64 i ∧ v21 = .int .i64 j ∧ a ≤ i ∧ i ≤ j ∧ j ≤ m ∧ Aside0 (SR w0 g H (P ++ X ++ Y ++ Q) wr) ∧ Aside0 (∀ c, a ≤ c → c < i → Ah cf (X.getD (c - a) 0) (Y.getD (mid - 1 - c) 0)) ∧ Aside0 (∀ c, j ≤ c → c < m → Ah cf (Y.getD (mid - 1 - c) 0) (X.getD (c - a) 0))) (fun v20 v21 _ => (intOf v21).toNat - (intOf v20).toNat)
    case atStart => exact ⟨a, m, by first | rfl | (congr 1; omega), rfl, Nat.le_refl _, by omega, Nat.le_refl _, H0, HI0, HJ0⟩
    case round =>
      clear H0 HI0 HJ0
      obtain ⟨i, j, rfl, rfl, hai, hij, hjb, HS, HI, HJ⟩ := hrel
      by_cases hlt : i < j
      · have q4 : decide ((i : Int) < (j : Int)) = true := decide_eq_true (by omega)
        have q5 : decide (i < j) = true := decide_eq_true hlt
        obtain ⟨h, hh⟩ : ∃ h : Nat, ((i : Int) + (j : Int)) / 2 = (h : Int) := ⟨(i + j) / 2, by omega⟩
        have hih : i ≤ h ∧ h < j := by omega
        obtain ⟨q, hq⟩ : ∃ q : Nat, (mid : Int) + (m : Int) - 1 - (h : Int) = (q : Int) := ⟨mid + m - 1 - h, by omega⟩
        obtain ⟨cx, hcx⟩ : ∃ c, h = a + c := ⟨h - a, by omega⟩
        obtain ⟨cy, hcy⟩ : ∃ c, mid - 1 - h = c := ⟨_, rfl⟩
        have hqm : q = m + cy := by omega
        have hcX : cx < X.length := by have := HPL.out; omega
        have hcY : cy < Y.length := by have := HPL.out; omega
        have gx : (P ++ X ++ Y ++ Q).getD h 0 = X.getD cx 0 := by
          have e : P ++ X ++ Y ++ Q = P ++ X ++ (Y ++ Q) := by simp only [List.append_assoc]
          rw [hcx, e]; exact getD_X P X _ a cx HPL.out.1 hcX
        have gy : (P ++ X ++ Y ++ Q).getD q 0 = Y.getD cy 0 := by
          have l : (P ++ X).length = m := by rw [List.length_append, HPL.out.1]; exact HPL.out.2.1
          rw [hqm]; exact getD_X (P ++ X) Y Q m cy l hcY
        have hxy : X.getD cx 0 < Y.getD cy 0 := hx _ (by rw [List.getD_eq_getElem?_getD, List.getElem?_eq_getElem hcX]; exact List.getElem_mem _) _ (by rw [List.getD_eq_getElem?_getD, List.getElem?_eq_getElem hcY]; exact List.getElem_mem _)
        have hlen2 : h < (P ++ X ++ Y ++ Q).length ∧ q < (P ++ X ++ Y ++ Q).length := by
          have e1 := HPL.out
          simp only [List.length_append]
          omega
        have hXs := srd_at hs hcX
        have hYs := srd_at hs2 hcY
        obtain ⟨x, hxc⟩ : ∃ x, X.getD cx 0 = x := ⟨_, rfl⟩
        obtain ⟨y, hyc⟩ : ∃ y, Y.getD cy 0 = y := ⟨_, rfl⟩
        have HXC := Aside0.mk hxc
        have HYC := Aside0.mk hyc
        rw [hxc] at gx hxy hXs
        rw [hyc] at gy hxy hYs
        clear hxc hyc
        obtain ⟨x1, x2, x3, hHx⟩ : ∃ a b c, H x = (a, b, c) := ⟨_, _, _, rfl⟩
        obtain ⟨y1, y2, y3, hHy⟩ : ∃ a b c, H y = (a, b, c) := ⟨_, _, _, rfl⟩
        have hfacts : ∀ w1, Below wr.heap.size wr w1 → SR w0 g H (P ++ X ++ Y ++ Q) w1 ∧ w1.cell? ⟨g, q, none⟩ = some (.slice y1 y2 y3) ∧ w1.cell? ⟨g, h, none⟩ = some (.slice x1 x2 x3) := fun w1 hb => by
          have h1 := HS.out.later hb
          have c1 := h1.cell q hlen2.2
          have c2 := h1.cell h hlen2.1
          rw [gy, hHy] at c1
          rw [gx, hHx] at c2
          exact ⟨h1, c1, c2⟩
        have HF := Aside0.mk hfacts
        have HC : Aside0 (∀ w1, Below wr.heap.size wr w1 → Calls Try.prog f (#[.slice y1 y2 y3, .slice x1 x2 x3] ++ cb) w1 fun e w' => e = .returned (.int .i64 (cf y x)) ∧ Below w1.heap.size w1 w') := ⟨fun w1 hb => by
          have h1 := (hfacts w1 hb).1
          have := HCMP.out y x w1 h1.below h1.keep
          simpa only [hHx, hHy, hdr] using this⟩
        have p1 : (0 ≤ (h : Int)) = True := eq_true (by omega)
        have p2 : ((h : Int) < (n : Int)) = True := eq_true (by omega)
        have p3 : (0 ≤ (q : Int)) = True := eq_true (by omega)
        have p4 : ((q : Int) < (n : Int)) = True := eq_true (by omega)
        have p5 : (h < n) = True := eq_true (by omega)
        have p6 : (q < n) = True := eq_true (by omega)
        have p7 : IntKind.i64.wrap (q : Int) = (q : Int) := wrap_nat (by omega)
        have HXS := Aside0.mk hXs
        have HYS := Aside0.mk hYs
        have Hcx := Aside0.mk hcx
        have Hcy := Aside0.mk hcy
        have Hxy := Aside0.mk hxy
        have HD := Aside0.mk (below_drew (Below.refl wr.heap.size wr))
        have HCX := Aside0.mk hcX
        have HCY := Aside0.mk hcY
        clear gx gy hlen2 hXs hYs hfacts HS hcx hcy hxy hcX hcY hqm
        go_upto_region 35 with (fail)
        clear hh
        refine start_ (n := 14) (S := fun w' => (w'.cell? ⟨g, q, none⟩ = some (.slice y1 y2 y3) ∧ w'.cell? ⟨g, h, none⟩ = some (.slice x1 x2 x3))) (ds := []) #[false, false, false, false, false, false, false, false, false, false, false, false, false, false] (by kernel_rfl) rfl rfl ((HF.out wr.drew HD.out).2) (fun hHeld => ?_)
        refine pure_ (i := 0) (N := some 158) (v := ?_) (a' := ?_) #[true, false, false, false, false, false, false, false, false, false, false, false, false, false] rfl rfl (by kernel_rfl) (fun _ _ _ h => h) (Or.inl ⟨by rfl, ?_⟩) ?_ ?_
        rotate_left
        · intro w'
          go_simp
          with_reducible rfl
        rotate_left
        · simp only [Act.put, List.setIfInBounds_toArray, List.set_cons_zero, List.set_cons_succ]
          rfl
        refine pure_ (i := 1) (N := some 159) (v := ?_) (a' := ?_) #[true, true, false, false, false, false, false, false, false, false, false, false, false, false] rfl rfl (by kernel_rfl) (fun _ _ _ h => h) (Or.inl ⟨by rfl, ?_⟩) ?_ ?_
        rotate_left
        · intro w'
          go_simp
          with_reducible rfl
        rotate_left
        · simp only [Act.put, List.setIfInBounds_toArray, List.set_cons_zero, List.set_cons_succ]
          rfl
        refine pure_ (i := 2) (N := some 160) (v := ?_) (a' := ?_) #[true, true, true, false, false, false, false, false, false, false, false, false, false, false] rfl rfl (by kernel_rfl) (fun _ _ _ h => h) (Or.inl ⟨by rfl, ?_⟩) ?_ ?_
        rotate_left
        · intro w'
          go_simp
          with_reducible rfl
        rotate_left
        · simp only [Act.put, List.setIfInBounds_toArray, List.set_cons_zero, List.set_cons_succ]
          rfl
        refine pure_ (i := 3) (N := some 161) (v := ?_) (a' := ?_) #[true, true, true, true, false, false, false, false, false, false, false, false, false, false] rfl rfl (by kernel_rfl) (fun _ _ _ h => h) (Or.inl ⟨by rfl, ?_⟩) ?_ ?_
        rotate_left
        · intro w'
          go_simp
          with_reducible rfl
        rotate_left
        · simp only [Act.put, List.setIfInBounds_toArray, List.set_cons_zero, List.set_cons_succ]
          rfl
        refine pure_ (i := 4) (N := some 162) (v := ?_) (a' := ?_) #[true, true, true, true, true, false, false, false, false, false, false, false, false, false] rfl rfl (by kernel_rfl) (fun _ _ _ h => h) (Or.inl ⟨by rfl, ?_⟩) ?_ ?_
        rotate_left
        · intro w'
          go_simp
          with_reducible rfl
        rotate_left
        · simp only [Act.put, List.setIfInBounds_toArray, List.set_cons_zero, List.set_cons_succ]
          rfl
        refine pure_ (i := 5) (N := some 163) (v := ?_) (a' := ?_) #[true, true, true, true, true, true, false, false, false, false, false, false, false, false] rfl rfl (by kernel_rfl) (fun _ _ _ h => h) (Or.inl ⟨by rfl, ?_⟩) ?_ ?_
        rotate_left
        · intro w'
          go_simp
          with_reducible rfl
        rotate_left
        · simp only [Act.put, List.setIfInBounds_toArray, List.set_cons_zero, List.set_cons_succ]
          rfl
        refine take_ (i := 6) (N := some 164) (v := ?_) (a' := ?_) #[true, true, true, true, true, true, true, false, false, false, false, false, false, false] rfl rfl (by kernel_rfl) (fun _ _ _ h => h) (Or.inl ⟨by rfl, ?_⟩) hHeld ?_ ?_
        rotate_left
        · rintro w' ⟨s0, s1⟩
          go_simp
          with_reducible rfl
        rotate_left
        · simp only [Act.put, List.setIfInBounds_toArray, List.set_cons_zero, List.set_cons_succ]
          rfl
        refine pure_ (i := 7) (N := some 165) (v := ?_) (a' := ?_) #[true, true, true, true, true, true, true, true, false, false, false, false, false, false] rfl rfl (by kernel_rfl) (fun _ _ _ h => h) (Or.inl ⟨by rfl, ?_⟩) ?_ ?_
        rotate_left
        · intro w'
          go_simp
          with_reducible rfl
        rotate_left
        · simp only [Act.put, List.setIfInBounds_toArray, List.set_cons_zero, List.set_cons_succ]
          rfl
        refine pure_ (i := 8) (N := some 166) (v := ?_) (a' := ?_) #[true, true, true, true, true, true, true, true, true, false, false, false, false, false] rfl rfl (by kernel_rfl) (fun _ _ _ h => h) (Or.inl ⟨by rfl, ?_⟩) ?_ ?_
        rotate_left
        · intro w'
          go_simp
          with_reducible rfl
        rotate_left
        · simp only [Act.put, List.setIfInBounds_toArray, List.set_cons_zero, List.set_cons_succ]
          rfl
        refine pure_ (i := 9) (N := some 167) (v := ?_) (a' := ?_) #[true, true, true, true, true, true, true, true, true, true, false, false, false, false] rfl rfl (by kernel_rfl) (fun _ _ _ h => h) (Or.inl ⟨by rfl, ?_⟩) ?_ ?_
        rotate_left
        · intro w'
          go_simp
          with_reducible rfl
        rotate_left
        · simp only [Act.put, List.setIfInBounds_toArray, List.set_cons_zero, List.set_cons_succ]
          rfl
        refine take_ (i := 10) (N := some 168) (v := ?_) (a' := ?_) #[true, true, true, true, true, true, true, true, true, true, true, false, false, false] rfl rfl (by kernel_rfl) (fun _ _ _ h => h) (Or.inl ⟨by rfl, ?_⟩) hHeld ?_ ?_
        rotate_left
        · rintro w' ⟨s0, s1⟩
          go_simp
          with_reducible rfl
        rotate_left
        · simp only [Act.put, List.setIfInBounds_toArray, List.set_cons_zero, List.set_cons_succ]
          rfl
        refine one_ (i := 11) (N := some 169) #[true, true, true, true, true, true, true, true, true, true, true, true, false, false] rfl rfl (by kernel_rfl) (by decide) (fun K hK => ?_)
        refine call_ f (#[.slice y1 y2 y3, .slice x1 x2 x3] ++ cb) (by rfl) rfl ?hrun ?_
        case hrun => have he := ef; unfold execOp; simp [resolve, Deferred.ofValue, invoke, Act.eval, he]
        (with_reducible refine (HC.out _ HD.out).mono ?_)
        rintro e w4 ⟨rfl, hb4⟩
        have HB4 := Aside0.mk hb4
        clear hb4
        refine ⟨_, rfl, ?_⟩
        refine hK.out _ _ (HF.out w4 (HD.out.trans (HB4.out.mono (Nat.le_refl _)))).2 (fun hHeld => ?_)
        clear hK K
        refine norm_ (a' := ?_) ?_ ?_
        rotate_left
        · show Act.put _ (some 169) _ = _
          simp only [Act.put, List.setIfInBounds_toArray, List.set_cons_zero, List.set_cons_succ]
          rfl
        refine pure_ (i := 12) (N := some 170) (v := ?_) (a' := ?_) #[true, true, true, true, true, true, true, true, true, true, true, true, true, false] rfl rfl (by kernel_rfl) (fun _ _ _ h => h) (Or.inl ⟨by rfl, ?_⟩) ?_ ?_
        rotate_left
        · intro w'
          go_simp
          with_reducible rfl
        rotate_left
        · simp only [Act.put, List.setIfInBounds_toArray, List.set_cons_zero, List.set_cons_succ]
          rfl
        refine pure_ (i := 13) (N := some 171) (v := ?_) (a' := ?_) #[true, true, true, true, true, true, true, true, true, true, true, true, true, true] rfl rfl (by kernel_rfl) (fun _ _ _ h => h) (Or.inl ⟨by rfl, ?_⟩) ?_ ?_
        rotate_left
        · intro w'
          go_simp
          with_reducible rfl
        rotate_left
        · simp only [Act.put, List.setIfInBounds_toArray, List.set_cons_zero, List.set_cons_succ]
          rfl
        refine done_ (by kernel_rfl) ?_
        have HD4 : Aside0 (Below wr.heap.size wr w4) := ⟨HD.out.trans (HB4.out.mono (Nat.le_refl _))⟩
        have HS4 := Aside0.mk (HF.out w4 HD4.out).1
        clear HB4 HD HC hHeld HF HD4
        by_cases hlt2 : cf y x < 0
        · have q6 : decide (cf y x < 0) = true := decide_eq_true hlt2
          have HJ2 : Aside0 (∀ c, h ≤ c → c < m → Ah cf (Y.getD (mid - 1 - c) 0) (X.getD (c - a) 0)) := ⟨fun d hd hle => by
            have hyx := (ahead_right C Hxy.out).1 (decide_eq_true hlt2)
            have h1 := HPL.out
            have h2 := Hcx.out
            have h3 := Hcy.out
            rcases Nat.lt_or_ge h d with h4 | h4
            · exact ((HYS.out.1 _ (by omega)).trans C hyx).trans C (HXS.out.2 _ (by omega) (by omega))
            · have e1 : mid - 1 - d = cy := by omega
              have e2 : d - a = cx := by omega
              rw [e1, e2, HXC.out, HYC.out]; exact hyx⟩
          rw [q6]
          have q7 : (cf y x < 0) = True := eq_true hlt2
          clear hlt2 HJ
          go_wp2
          go_roundw
          case rel => exact ⟨i, h, rfl, by first | rfl | go_num, hai, by omega, by omega, HS4, HI, HJ2⟩
          case measure => simp [intOf]; omega
        · have q6 : decide (cf y x < 0) = false := decide_eq_false hlt2
          have HI2 : Aside0 (∀ c, a ≤ c → c < h + 1 → Ah cf (X.getD (c - a) 0) (Y.getD (mid - 1 - c) 0)) := ⟨fun d hd hle => by
            have hxy := (not_ahead_right C Hxy.out).1 (decide_eq_false hlt2)
            have h1 := HPL.out
            have h2 := Hcx.out
            have h3 := Hcy.out
            rcases Nat.lt_or_ge d h with h4 | h4
            · exact ((HXS.out.1 _ (by omega)).trans C hxy).trans C (HYS.out.2 _ (by omega) (by omega))
            · have e1 : mid - 1 - d = cy := by omega
              have e2 : d - a = cx := by omega
              rw [e1, e2, HXC.out, HYC.out]; exact hxy⟩
          rw [q6]
          have q7 : (cf y x < 0) = False := eq_false hlt2
          clear hlt2 HI
          go_wp2
          go_roundw
          case rel => exact ⟨h + 1, j, by first | rfl | go_num, rfl, by omega, by omega, hjb, HS4, HI2, HJ⟩
          case measure => simp [intOf]; omega
      · have q4 : decide ((i : Int) < (j : Int)) = false := decide_eq_false (by omega)
        have q5 : decide (i < j) = false := decide_eq_false hlt
        obtain rfl : i = j := by omega
        obtain ⟨en, hen⟩ : ∃ en : Nat, (mid : Int) + (m : Int) - (i : Int) = (en : Int) := ⟨mid + m - i, by omega⟩
        have hbounds : a ≤ i ∧ i ≤ m ∧ i ≤ mid ∧ m ≤ en ∧ en ≤ b ∧ en + i = mid + m := by omega
        have c1 := cross_at C hs hs2 (i - a) (en - m) (by have := HPL.out; omega) (by have := HPL.out; omega) (fun h1 h2 => by
          have := HPL.out
          have h3 := HI.out (i - 1) (by omega) (by omega)
          rw [show mid - 1 - (i - 1) = en - m by omega, show i - 1 - a = i - a - 1 by omega] at h3
          exact h3)
        have c2 := cross_at C hs2 hs (en - m) (i - a) (by have := HPL.out; omega) (by have := HPL.out; omega) (fun h1 h2 => by
          have := HPL.out
          have h3 := HJ.out i (by omega) (by omega)
          rw [show mid - 1 - i = en - m - 1 by omega] at h3
          exact h3)
        have sX := hs.split (i - a)
        have sY := hs2.split (en - m)
        have lX1 : (X.take (i - a)).length = i - a := by rw [List.length_take]; have := HPL.out; omega
        have lX2 : (X.drop (i - a)).length = m - i := by rw [List.length_drop]; have := HPL.out; omega
        have lY1 : (Y.take (en - m)).length = en - m := by rw [List.length_take]; have := HPL.out; omega
        have lY2 : (Y.drop (en - m)).length = b - en := by rw [List.length_drop]; have := HPL.out; omega
        have eX : X = X.take (i - a) ++ X.drop (i - a) := (List.take_append_drop _ _).symm
        have eY : Y = Y.take (en - m) ++ Y.drop (en - m) := (List.take_append_drop _ _).symm
        have hnn : P.length + X.length + Y.length + Q.length = n := HNN.out
        obtain ⟨X1, hX1⟩ : ∃ X1, X1 = X.take (i - a) := ⟨_, rfl⟩
        obtain ⟨X2, hX2⟩ : ∃ X2, X2 = X.drop (i - a) := ⟨_, rfl⟩
        obtain ⟨Y1, hY1⟩ : ∃ Y1, Y1 = Y.take (en - m) := ⟨_, rfl⟩
        obtain ⟨Y2, hY2⟩ : ∃ Y2, Y2 = Y.drop (en - m) := ⟨_, rfl⟩
        rw [← hX1] at c1 sX lX1 eX
        rw [← hX2] at c2 sX lX2 eX
        rw [← hY1] at c2 sY lY1 eY
        rw [← hY2] at c1 sY lY2 eY
        have hcr := cross (by rw [← eX]; exact hs) (by rw [← eY]; exact hs2) c1 c2
        have HM : Aside0 (∀ Z1 Z2, Mrg cf X1 Y1 Z1 → Mrg cf X2 Y2 Z2 → Mrg cf X Y (Z1 ++ Z2)) := ⟨fun Z1 Z2 m1 m2 => by rw [eX, eY]; exact m1.parts m2 hcr⟩
        have HS0 : Aside0 (SR w0 g H (P ++ X1 ++ X2 ++ Y1 ++ Y2 ++ Q) wr) := ⟨by have := HS.out; rw [eX, eY] at this; simpa only [List.append_assoc] using this⟩
        have hx1 : ∀ x ∈ X1, ∀ y ∈ Y1, x < y := fun x hx' y hy' => hx x (by rw [eX]; exact List.mem_append_left _ hx') y (by rw [eY]; exact List.mem_append_left _ hy')
        have hx2 : ∀ x ∈ X2, ∀ y ∈ Y2, x < y := fun x hx' y hy' => hx x (by rw [eX]; exact List.mem_append_right _ hx') y (by rw [eY]; exact List.mem_append_right _ hy')
        have lP : P.length = a := HPL.out.1
        have lsum : a + (i - a) + (m - i) + (en - m) + (b - en) + Q.length = n := by have := HPL.out; omega
        have lNN : X.length + Y.length = b - a := by have := HPL.out; omega
        have hrec := HREC.out
        have HRR : Aside0 (0 < X2.length → 0 < Y1.length → ∀ w, SR w0 g H (P ++ X1 ++ X2 ++ Y1 ++ Y2 ++ Q) w → Calls Try.prog 78 #[.slice (some ⟨g, 0, none⟩) n cap, .int .i64 i, .int .i64 m, .int .i64 en, .func (.func f) #[] cb] w fun e w' => e = .returned (.tuple #[]) ∧ SR w0 g H (P ++ X1 ++ Y1 ++ X2 ++ Y2 ++ Q) w') := ⟨fun h1 h2 w hw => by
          have := rotate_calls H w0 g cap (P ++ X1) X2 Y1 (Y2 ++ Q) n i m en (.func (.func f) #[] cb) w (by simp only [List.length_append, lP, lX1, lX2, lY1, lY2]; omega) hl (by simp only [List.length_append, lP, lX1]; omega) (by simp only [List.length_append, lP, lX1, lX2]; omega) (by simp only [List.length_append, lP, lX1, lX2, lY1]; omega) h1 h2 (by simpa only [List.append_assoc] using hw)
          simpa only [List.append_assoc] using this⟩
        have HR1 : Aside0 (0 < X1.length → 0 < Y1.length → ∀ w, SR w0 g H (P ++ X1 ++ Y1 ++ X2 ++ Y2 ++ Q) w → Calls Try.prog 60 #[.slice (some ⟨g, 0, none⟩) n cap, .int .i64 a, .int .i64 i, .int .i64 mid, .func (.func f) #[] cb] w fun e w' => e = .returned (.tuple #[]) ∧ ∃ Z1, Mrg cf X1 Y1 Z1 ∧ SR w0 g H (P ++ Z1 ++ X2 ++ Y2 ++ Q) w') := ⟨fun h1 h2 w hw => by
          have := hrec P X1 Y1 (X2 ++ Y2 ++ Q) a i mid w (by simp only [List.length_append, lP, lX1, lX2, lY1, lY2]; omega) lP.symm (by rw [lP, lX1]; omega) (by rw [lP, lX1, lY1]; omega) h1 h2 (by rw [lX1, lY1]; omega) sX.1 sY.1 hx1 (by simpa only [List.append_assoc] using hw)
          simpa only [List.append_assoc] using this⟩
        have HR2 : Aside0 (0 < X2.length → 0 < Y2.length → ∀ Z1 : List Nat, Z1.length = mid - a → ∀ w, SR w0 g H (P ++ Z1 ++ X2 ++ Y2 ++ Q) w → Calls Try.prog 60 #[.slice (some ⟨g, 0, none⟩) n cap, .int .i64 mid, .int .i64 en, .int .i64 b, .func (.func f) #[] cb] w fun e w' => e = .returned (.tuple #[]) ∧ ∃ Z2, Mrg cf X2 Y2 Z2 ∧ SR w0 g H (P ++ Z1 ++ Z2 ++ Q) w') := ⟨fun h1 h2 Z1 lZ w hw => by
          have := hrec (P ++ Z1) X2 Y2 Q mid en b w (by simp only [List.length_append, lP, lZ, lX2, lY2]; omega) (by simp only [List.length_append, lP, lZ]; omega) (by simp only [List.length_append, lP, lZ, lX2]; omega) (by simp only [List.length_append, lP, lZ, lX2, lY2]; omega) h1 h2 (by rw [lX2, lY2]; omega) sX.2 sY.2 hx2 hw
          exact this⟩
        have HL : Aside0 (X1.length = i - a ∧ X2.length = m - i ∧ Y1.length = en - m ∧ Y2.length = b - en) := ⟨lX1, lX2, lY1, lY2⟩
        have HSR : Aside0 (Srd cf X1 ∧ Srd cf X2 ∧ Srd cf Y1 ∧ Srd cf Y2) := ⟨sX.1, sX.2, sY.1, sY.2⟩
        clear c1 c2 sX sY lX1 lX2 lY1 lY2 eX eY hcr hx1 hx2 lP lsum lNN hrec HS HI HJ hX1 hX2 hY1 hY2 hnn hs hs2 hx
        by_cases h0 : a < i
        · by_cases h1 : i < m
          · by_cases h2 : m < en
            · by_cases h3 : en < b
              · have r0 : decide ((i : Int) < (m : Int)) = true := decide_eq_true (by omega)
                have s0 : decide (i < m) = true := decide_eq_true (by omega)
                have r1 : decide ((m : Int) < (en : Int)) = true := decide_eq_true (by omega)
                have s1 : decide (m < en) = true := decide_eq_true (by omega)
                have r2 : decide ((a : Int) < (i : Int)) = true := decide_eq_true (by omega)
                have s2 : decide (a < i) = true := decide_eq_true (by omega)
                have r3 : decide ((i : Int) < (mid : Int)) = true := decide_eq_true (by omega)
                have s3 : decide (i < mid) = true := decide_eq_true (by omega)
                have r4 : decide ((mid : Int) < (en : Int)) = true := decide_eq_true (by omega)
                have s4 : decide (mid < en) = true := decide_eq_true (by omega)
                have r5 : decide ((en : Int) < (b : Int)) = true := decide_eq_true (by omega)
                have s5 : decide (en < b) = true := decide_eq_true (by omega)
                have HR := Aside0.mk (HRR.out (by have := HL.out; omega) (by have := HL.out; omega))
                have HA := Aside0.mk (HR1.out (by have := HL.out; omega) (by have := HL.out; omega))
                have HB := Aside0.mk (HR2.out (by have := HL.out; omega) (by have := HL.out; omega))
                clear HRR HR1 HR2 h0 h1 h2 h3
                go_wp2_with (go_at_call 78; refine (HR.out _ HS0.out).mono ?_; rintro e w5 ⟨rfl, hs5⟩; have HT := Aside0.mk hs5; clear hs5 HS0 HR)
                go_wp2_with (go_at_call 60; refine (HA.out _ HT.out).mono ?_; rintro e w6 ⟨rfl, Z1, hm1, hs6⟩; have HM1 := Aside0.mk hm1; have HU := Aside0.mk hs6; clear hs6 hm1 HT HA)
                have HB2 := Aside0.mk (HB.out Z1 (by have := HM1.out.1.length_eq; rw [List.length_append] at this; have := HL.out; omega))
                clear HB
                go_wp2_with (go_at_call 60; refine (HB2.out _ HU.out).mono ?_; rintro e w7 ⟨rfl, Z2, hm2, hs7⟩; have HM2 := Aside0.mk hm2; have HV := Aside0.mk hs7; clear hs7 hm2 HU HB2)
                first | go_end0 | (go_wp2; refine bodyPost_ret (results_none rfl _ _ _) rfl ?_) | refine bodyPost_ret (results_none rfl _ _ _) rfl ?_
                exact ⟨rfl, Z1 ++ Z2, HM.out _ _ HM1.out HM2.out, by have := HV.out; simpa only [List.append_assoc] using this⟩
              · have r0 : decide ((i : Int) < (m : Int)) = true := decide_eq_true (by omega)
                have s0 : decide (i < m) = true := decide_eq_true (by omega)
                have r1 : decide ((m : Int) < (en : Int)) = true := decide_eq_true (by omega)
                have s1 : decide (m < en) = true := decide_eq_true (by omega)
                have r2 : decide ((a : Int) < (i : Int)) = true := decide_eq_true (by omega)
                have s2 : decide (a < i) = true := decide_eq_true (by omega)
                have r3 : decide ((i : Int) < (mid : Int)) = true := decide_eq_true (by omega)
                have s3 : decide (i < mid) = true := decide_eq_true (by omega)
                have r4 : decide ((mid : Int) < (en : Int)) = true := decide_eq_true (by omega)
                have s4 : decide (mid < en) = true := decide_eq_true (by omega)
                have r5 : decide ((en : Int) < (b : Int)) = false := decide_eq_false (by omega)
                have s5 : decide (en < b) = false := decide_eq_false (by omega)
                have HR := Aside0.mk (HRR.out (by have := HL.out; omega) (by have := HL.out; omega))
                have HA := Aside0.mk (HR1.out (by have := HL.out; omega) (by have := HL.out; omega))
                have HEY2 : Aside0 (Y2 = []) := ⟨List.eq_nil_of_length_eq_zero (by have := HL.out; omega)⟩
                clear HRR HR1 HR2 h0 h1 h2 h3
                go_wp2_with (go_at_call 78; refine (HR.out _ HS0.out).mono ?_; rintro e w5 ⟨rfl, hs5⟩; have HT := Aside0.mk hs5; clear hs5 HS0 HR)
                go_wp2_with (go_at_call 60; refine (HA.out _ HT.out).mono ?_; rintro e w6 ⟨rfl, Z1, hm1, hs6⟩; have HM1 := Aside0.mk hm1; have HU := Aside0.mk hs6; clear hs6 hm1 HT HA)
                have HM2 : Aside0 (Mrg cf X2 Y2 (X2 ++ Y2)) := ⟨by rw [HEY2.out]; first | exact Mrg.nil_left HSR.out.2.2.2 | (rw [List.append_nil]; exact Mrg.nil_right HSR.out.2.1)⟩
                obtain ⟨Z2, hZ2⟩ : ∃ Z2, Z2 = X2 ++ Y2 := ⟨_, rfl⟩
                have HV : Aside0 (SR w0 g H (P ++ Z1 ++ Z2 ++ Q) _) := ⟨by have := HU.out; rw [hZ2]; simpa only [List.append_assoc] using this⟩
                rw [← hZ2] at HM2
                clear hZ2 HU
                first | go_end0 | (go_wp2; refine bodyPost_ret (results_none rfl _ _ _) rfl ?_) | refine bodyPost_ret (results_none rfl _ _ _) rfl ?_
                exact ⟨rfl, Z1 ++ Z2, HM.out _ _ HM1.out HM2.out, by have := HV.out; simpa only [List.append_assoc] using this⟩
            · by_cases h3 : en < b
              · have r0 : decide ((i : Int) < (m : Int)) = true := decide_eq_true (by omega)
                have s0 : decide (i < m) = true := decide_eq_true (by omega)
                have r1 : decide ((m : Int) < (en : Int)) = false := decide_eq_false (by omega)
                have s1 : decide (m < en) = false := decide_eq_false (by omega)
                have r2 : decide ((a : Int) < (i : Int)) = true := decide_eq_true (by omega)
                have s2 : decide (a < i) = true := decide_eq_true (by omega)
                have r3 : decide ((i : Int) < (mid : Int)) = false := decide_eq_false (by omega)
                have s3 : decide (i < mid) = false := decide_eq_false (by omega)
                have r4 : decide ((mid : Int) < (en : Int)) = true := decide_eq_true (by omega)
                have s4 : decide (mid < en) = true := decide_eq_true (by omega)
                have r5 : decide ((en : Int) < (b : Int)) = true := decide_eq_true (by omega)
                have s5 : decide (en < b) = true := decide_eq_true (by omega)
                have HT : Aside0 (SR w0 g H (P ++ X1 ++ Y1 ++ X2 ++ Y2 ++ Q) wr) := ⟨by have := HS0.out; have e : Y1 = [] := List.eq_nil_of_length_eq_zero (by have := HL.out; omega); simpa [e] using this⟩
                have HB := Aside0.mk (HR2.out (by have := HL.out; omega) (by have := HL.out; omega))
                have HEY1 : Aside0 (Y1 = []) := ⟨List.eq_nil_of_length_eq_zero (by have := HL.out; omega)⟩
                clear HRR HR1 HR2 h0 h1 h2 h3
                have HM1 : Aside0 (Mrg cf X1 Y1 (X1 ++ Y1)) := ⟨by rw [HEY1.out]; first | exact Mrg.nil_left HSR.out.2.2.1 | (rw [List.append_nil]; exact Mrg.nil_right HSR.out.1)⟩
                obtain ⟨Z1, hZ1⟩ : ∃ Z1, Z1 = X1 ++ Y1 := ⟨_, rfl⟩
                have HU : Aside0 (SR w0 g H (P ++ Z1 ++ X2 ++ Y2 ++ Q) _) := ⟨by have := HT.out; rw [hZ1]; simpa only [List.append_assoc] using this⟩
                rw [← hZ1] at HM1
                clear hZ1 HT
                have HB2 := Aside0.mk (HB.out Z1 (by have := HM1.out.1.length_eq; rw [List.length_append] at this; have := HL.out; omega))
                clear HB
                go_wp2_with (go_at_call 60; refine (HB2.out _ HU.out).mono ?_; rintro e w7 ⟨rfl, Z2, hm2, hs7⟩; have HM2 := Aside0.mk hm2; have HV := Aside0.mk hs7; clear hs7 hm2 HU HB2)
                first | go_end0 | (go_wp2; refine bodyPost_ret (results_none rfl _ _ _) rfl ?_) | refine bodyPost_ret (results_none rfl _ _ _) rfl ?_
                exact ⟨rfl, Z1 ++ Z2, HM.out _ _ HM1.out HM2.out, by have := HV.out; simpa only [List.append_assoc] using this⟩
              · exfalso; omega
          · by_cases h2 : m < en
            · by_cases h3 : en < b
              · have r0 : decide ((i : Int) < (m : Int)) = false := decide_eq_false (by omega)
                have s0 : decide (i < m) = false := decide_eq_false (by omega)
                have r1 : decide ((m : Int) < (en : Int)) = true := decide_eq_true (by omega)
                have s1 : decide (m < en) = true := decide_eq_true (by omega)
                have r2 : decide ((a : Int) < (i : Int)) = true := decide_eq_true (by omega)
                have s2 : decide (a < i) = true := decide_eq_true (by omega)
                have r3 : decide ((i : Int) < (mid : Int)) = true := decide_eq_true (by omega)
                have s3 : decide (i < mid) = true := decide_eq_true (by omega)
                have r4 : decide ((mid : Int) < (en : Int)) = false := decide_eq_false (by omega)
                have s4 : decide (mid < en) = false := decide_eq_false (by omega)
                have r5 : decide ((en : Int) < (b : Int)) = true := decide_eq_true (by omega)
                have s5 : decide (en < b) = true := decide_eq_true (by omega)
                have HT : Aside0 (SR w0 g H (P ++ X1 ++ Y1 ++ X2 ++ Y2 ++ Q) wr) := ⟨by have := HS0.out; have e : X2 = [] := List.eq_nil_of_length_eq_zero (by have := HL.out; omega); simpa [e] using this⟩
                have HA := Aside0.mk (HR1.out (by have := HL.out; omega) (by have := HL.out; omega))
                have HEX2 : Aside0 (X2 = []) := ⟨List.eq_nil_of_length_eq_zero (by have := HL.out; omega)⟩
                clear HRR HR1 HR2 h0 h1 h2 h3
                go_wp2_with (go_at_call 60; refine (HA.out _ HT.out).mono ?_; rintro e w6 ⟨rfl, Z1, hm1, hs6⟩; have HM1 := Aside0.mk hm1; have HU := Aside0.mk hs6; clear hs6 hm1 HT HA)
                have HM2 : Aside0 (Mrg cf X2 Y2 (X2 ++ Y2)) := ⟨by rw [HEX2.out]; first | exact Mrg.nil_left HSR.out.2.2.2 | (rw [List.append_nil]; exact Mrg.nil_right HSR.out.2.1)⟩
                obtain ⟨Z2, hZ2⟩ : ∃ Z2, Z2 = X2 ++ Y2 := ⟨_, rfl⟩
                have HV : Aside0 (SR w0 g H (P ++ Z1 ++ Z2 ++ Q) _) := ⟨by have := HU.out; rw [hZ2]; simpa only [List.append_assoc] using this⟩
                rw [← hZ2] at HM2
                clear hZ2 HU
                first | go_end0 | (go_wp2; refine bodyPost_ret (results_none rfl _ _ _) rfl ?_) | refine bodyPost_ret (results_none rfl _ _ _) rfl ?_
                exact ⟨rfl, Z1 ++ Z2, HM.out _ _ HM1.out HM2.out, by have := HV.out; simpa only [List.append_assoc] using this⟩
              · exfalso; omega
            · by_cases h3 : en < b
              · have r0 : decide ((i : Int) < (m : Int)) = false := decide_eq_false (by omega)
                have s0 : decide (i < m) = false := decide_eq_false (by omega)
                have r1 : decide ((m : Int) < (en : Int)) = false := decide_eq_false (by omega)
                have s1 : decide (m < en) = false := decide_eq_false (by omega)
                have r2 : decide ((a : Int) < (i : Int)) = true := decide_eq_true (by omega)
                have s2 : decide (a < i) = true := decide_eq_true (by omega)
                have r3 : decide ((i : Int) < (mid : Int)) = false := decide_eq_false (by omega)
                have s3 : decide (i < mid) = false := decide_eq_false (by omega)
                have r4 : decide ((mid : Int) < (en : Int)) = false := decide_eq_false (by omega)
                have s4 : decide (mid < en) = false := decide_eq_false (by omega)
                have r5 : decide ((en : Int) < (b : Int)) = true := decide_eq_true (by omega)
                have s5 : decide (en < b) = true := decide_eq_true (by omega)
                have HT : Aside0 (SR w0 g H (P ++ X1 ++ Y1 ++ X2 ++ Y2 ++ Q) wr) := ⟨by have := HS0.out; have e : X2 = [] := List.eq_nil_of_length_eq_zero (by have := HL.out; omega); simpa [e] using this⟩
                have HEX2 : Aside0 (X2 = []) := ⟨List.eq_nil_of_length_eq_zero (by have := HL.out; omega)⟩
                have HEY1 : Aside0 (Y1 = []) := ⟨List.eq_nil_of_length_eq_zero (by have := HL.out; omega)⟩
                clear HRR HR1 HR2 h0 h1 h2 h3
                have HM1 : Aside0 (Mrg cf X1 Y1 (X1 ++ Y1)) := ⟨by rw [HEY1.out]; first | exact Mrg.nil_left HSR.out.2.2.1 | (rw [List.append_nil]; exact Mrg.nil_right HSR.out.1)⟩
                obtain ⟨Z1, hZ1⟩ : ∃ Z1, Z1 = X1 ++ Y1 := ⟨_, rfl⟩
                have HU : Aside0 (SR w0 g H (P ++ Z1 ++ X2 ++ Y2 ++ Q) _) := ⟨by have := HT.out; rw [hZ1]; simpa only [List.append_assoc] using this⟩
                rw [← hZ1] at HM1
                clear hZ1 HT
                have HM2 : Aside0 (Mrg cf X2 Y2 (X2 ++ Y2)) := ⟨by rw [HEX2.out]; first | exact Mrg.nil_left HSR.out.2.2.2 | (rw [List.append_nil]; exact Mrg.nil_right HSR.out.2.1)⟩
                obtain ⟨Z2, hZ2⟩ : ∃ Z2, Z2 = X2 ++ Y2 := ⟨_, rfl⟩
                have HV : Aside0 (SR w0 g H (P ++ Z1 ++ Z2 ++ Q) _) := ⟨by have := HU.out; rw [hZ2]; simpa only [List.append_assoc] using this⟩
                rw [← hZ2] at HM2
                clear hZ2 HU
                go_wp2
                first | go_end0 | (go_wp2; refine bodyPost_ret (results_none rfl _ _ _) rfl ?_) | refine bodyPost_ret (results_none rfl _ _ _) rfl ?_
                exact ⟨rfl, Z1 ++ Z2, HM.out _ _ HM1.out HM2.out, by have := HV.out; simpa only [List.append_assoc] using this⟩
              · exfalso; omega
        · by_cases h1 : i < m
          · by_cases h2 : m < en
            · by_cases h3 : en < b
              · have r0 : decide ((i : Int) < (m : Int)) = true := decide_eq_true (by omega)
                have s0 : decide (i < m) = true := decide_eq_true (by omega)
                have r1 : decide ((m : Int) < (en : Int)) = true := decide_eq_true (by omega)
                have s1 : decide (m < en) = true := decide_eq_true (by omega)
                have r2 : decide ((a : Int) < (i : Int)) = false := decide_eq_false (by omega)
                have s2 : decide (a < i) = false := decide_eq_false (by omega)
                have r3 : decide ((i : Int) < (mid : Int)) = true := decide_eq_true (by omega)
                have s3 : decide (i < mid) = true := decide_eq_true (by omega)
                have r4 : decide ((mid : Int) < (en : Int)) = true := decide_eq_true (by omega)
                have s4 : decide (mid < en) = true := decide_eq_true (by omega)
                have r5 : decide ((en : Int) < (b : Int)) = true := decide_eq_true (by omega)
                have s5 : decide (en < b) = true := decide_eq_true (by omega)
                have HR := Aside0.mk (HRR.out (by have := HL.out; omega) (by have := HL.out; omega))
                have HB := Aside0.mk (HR2.out (by have := HL.out; omega) (by have := HL.out; omega))
                have HEX1 : Aside0 (X1 = []) := ⟨List.eq_nil_of_length_eq_zero (by have := HL.out; omega)⟩
                clear HRR HR1 HR2 h0 h1 h2 h3
                go_wp2_with (go_at_call 78; refine (HR.out _ HS0.out).mono ?_; rintro e w5 ⟨rfl, hs5⟩; have HT := Aside0.mk hs5; clear hs5 HS0 HR)
                have HM1 : Aside0 (Mrg cf X1 Y1 (X1 ++ Y1)) := ⟨by rw [HEX1.out]; first | exact Mrg.nil_left HSR.out.2.2.1 | (rw [List.append_nil]; exact Mrg.nil_right HSR.out.1)⟩
                obtain ⟨Z1, hZ1⟩ : ∃ Z1, Z1 = X1 ++ Y1 := ⟨_, rfl⟩
                have HU : Aside0 (SR w0 g H (P ++ Z1 ++ X2 ++ Y2 ++ Q) _) := ⟨by have := HT.out; rw [hZ1]; simpa only [List.append_assoc] using this⟩
                rw [← hZ1] at HM1
                clear hZ1 HT
                have HB2 := Aside0.mk (HB.out Z1 (by have := HM1.out.1.length_eq; rw [List.length_append] at this; have := HL.out; omega))
                clear HB
                go_wp2_with (go_at_call 60; refine (HB2.out _ HU.out).mono ?_; rintro e w7 ⟨rfl, Z2, hm2, hs7⟩; have HM2 := Aside0.mk hm2; have HV := Aside0.mk hs7; clear hs7 hm2 HU HB2)
                first | go_end0 | (go_wp2; refine bodyPost_ret (results_none rfl _ _ _) rfl ?_) | refine bodyPost_ret (results_none rfl _ _ _) rfl ?_
                exact ⟨rfl, Z1 ++ Z2, HM.out _ _ HM1.out HM2.out, by have := HV.out; simpa only [List.append_assoc] using this⟩
              · have r0 : decide ((i : Int) < (m : Int)) = true := decide_eq_true (by omega)
                have s0 : decide (i < m) = true := decide_eq_true (by omega)
                have r1 : decide ((m : Int) < (en : Int)) = true := decide_eq_true (by omega)
                have s1 : decide (m < en) = true := decide_eq_true (by omega)
                have r2 : decide ((a : Int) < (i : Int)) = false := decide_eq_false (by omega)
                have s2 : decide (a < i) = false := decide_eq_false (by omega)
                have r3 : decide ((i : Int) < (mid : Int)) = true := decide_eq_true (by omega)
                have s3 : decide (i < mid) = true := decide_eq_true (by omega)
                have r4 : decide ((mid : Int) < (en : Int)) = true := decide_eq_true (by omega)
                have s4 : decide (mid < en) = true := decide_eq_true (by omega)
                have r5 : decide ((en : Int) < (b : Int)) = false := decide_eq_false (by omega)
                have s5 : decide (en < b) = false := decide_eq_false (by omega)
                have HR := Aside0.mk (HRR.out (by have := HL.out; omega) (by have := HL.out; omega))
                have HEX1 : Aside0 (X1 = []) := ⟨List.eq_nil_of_length_eq_zero (by have := HL.out; omega)⟩
                have HEY2 : Aside0 (Y2 = []) := ⟨List.eq_nil_of_length_eq_zero (by have := HL.out; omega)⟩
                clear HRR HR1 HR2 h0 h1 h2 h3
                go_wp2_with (go_at_call 78; refine (HR.out _ HS0.out).mono ?_; rintro e w5 ⟨rfl, hs5⟩; have HT := Aside0.mk hs5; clear hs5 HS0 HR)
                have HM1 : Aside0 (Mrg cf X1 Y1 (X1 ++ Y1)) := ⟨by rw [HEX1.out]; first | exact Mrg.nil_left HSR.out.2.2.1 | (rw [List.append_nil]; exact Mrg.nil_right HSR.out.1)⟩
                obtain ⟨Z1, hZ1⟩ : ∃ Z1, Z1 = X1 ++ Y1 := ⟨_, rfl⟩
                have HU : Aside0 (SR w0 g H (P ++ Z1 ++ X2 ++ Y2 ++ Q) _) := ⟨by have := HT.out; rw [hZ1]; simpa only [List.append_assoc] using this⟩
                rw [← hZ1] at HM1
                clear hZ1 HT
                have HM2 : Aside0 (Mrg cf X2 Y2 (X2 ++ Y2)) := ⟨by rw [HEY2.out]; first | exact Mrg.nil_left HSR.out.2.2.2 | (rw [List.append_nil]; exact Mrg.nil_right HSR.out.2.1)⟩
                obtain ⟨Z2, hZ2⟩ : ∃ Z2, Z2 = X2 ++ Y2 := ⟨_, rfl⟩
                have HV : Aside0 (SR w0 g H (P ++ Z1 ++ Z2 ++ Q) _) := ⟨by have := HU.out; rw [hZ2]; simpa only [List.append_assoc] using this⟩
                rw [← hZ2] at HM2
                clear hZ2 HU
                first | go_end0 | (go_wp2; refine bodyPost_ret (results_none rfl _ _ _) rfl ?_) | refine bodyPost_ret (results_none rfl _ _ _) rfl ?_
                exact ⟨rfl, Z1 ++ Z2, HM.out _ _ HM1.out HM2.out, by have := HV.out; simpa only [List.append_assoc] using this⟩
            · by_cases h3 : en < b
              · exfalso; omega
              · exfalso; omega
          · by_cases h2 : m < en
            · by_cases h3 : en < b
              · exfalso; omega
              · exfalso; omega
            · by_cases h3 : en < b
              · exfalso; omega
              · exfalso; omega
end Go.Proofs.Ythpoeljnmdjjiaa.Srt
end
section
/-
  Sorting, by hand: slices.symMergeCmpFunc, all of it.
-/
namespace Go.Proofs.Ythpoeljnmdjjiaa.Srt
open Go.RowKit Go.Proofs.YthpoeljnmdjjiaaW.PrintWords Go.Proofs.YthpoeljnmdjjiaaW.PrintLast Go.Proofs.YthpoeljnmdjjiaaW.PrintMore
set_option linter.unusedVariables false
set_option linter.unusedSimpArgs false
variable {cf : Nat → Nat → Int}

theorem symMerge_all (C : Cf cf) (H : Nat → Hd) (w0 : World) (g cap : Nat) (f : Nat) (cb : Array Value) (ef : ∀ args w, (callFunc f args).run Try.prog w = .ok (.enter f args) w) (hcmp : CmpOK w0 g H f cb cf) (n : Nat) (hl : n ≤ 1000000) : ∀ N, SymOK cf H w0 g cap f cb n N := by
  intro N
  induction N with
  | zero => intro P X Y Q a m b w _ _ _ _ h1 h2 h3; omega
  | succ N ih =>
    intro P X Y Q a m b w hn ha hm hb h1 h2 h3 hs hs2 hx h
    rcases Nat.lt_or_ge (X.length + Y.length) (N + 1) with h4 | h4
    · exact ih P X Y Q a m b w hn ha hm hb h1 h2 (by omega) hs hs2 hx h
    · have h5 : X.length + Y.length = N + 1 := by omega
      rcases Nat.lt_or_ge 1 X.length with hX | hX
      · rcases Nat.lt_or_ge 1 Y.length with hY | hY
        · exact symMerge_mid C H w0 g cap f cb ef hcmp N n hl ih P X Y Q a m b w hn ha hm hb hX hY h5 hs hs2 hx h
        · obtain ⟨y, rfl⟩ : ∃ y, Y = [y] := List.length_eq_one_iff.1 (by omega)
          exact symMerge_right C H w0 g cap f cb ef hcmp P X y Q n a m b w hn hl ha hm (by simpa using hb) hX hs (fun x h => hx x h y (List.mem_singleton.2 rfl)) h
      · obtain ⟨x, rfl⟩ : ∃ x, X = [x] := List.length_eq_one_iff.1 (by omega)
        exact symMerge_left C H w0 g cap f cb ef hcmp P x Y Q n a m b w hn hl ha (by simpa using hm) (by simpa using hb) h2 hs2 (fun y h => hx x (List.mem_singleton.2 rfl) y h) h
end Go.Proofs.Ythpoeljnmdjjiaa.Srt
end
section
/-
  Sorting, plain: rows in blocks of one length, each of which is in order.
-/
namespace Go.Proofs.Ythpoeljnmdjjiaa.Srt
set_option linter.unusedVariables false
set_option linter.unusedSimpArgs false
variable {cf : Nat → Nat → Int}

/-- A row in blocks of k (the last one no longer), each in order and with the elements that stand there in the base. -/
inductive BS (cf : Nat → Nat → Int) (k : Nat) : List Nat → List Nat → Prop
  | last (X Z : List Nat) : X.length ≤ k → Srd cf Z → Z.Perm X → BS cf k X Z
  | cons (X Z R S : List Nat) : X.length = k → Srd cf Z → Z.Perm X → BS cf k R S → BS cf k (X ++ R) (Z ++ S)
theorem srd_nil : Srd cf [] := List.Pairwise.nil
theorem BS.nil {k : Nat} : BS cf k [] [] := .last [] [] (Nat.zero_le _) srd_nil (List.Perm.refl _)
theorem BS.len {k : Nat} {X Z : List Nat} (h : BS cf k X Z) : Z.length = X.length := by
  induction h with
  | last X Z _ _ h => exact h.length_eq
  | cons X Z R S _ _ h _ ih => rw [List.length_append, List.length_append, h.length_eq, ih]
/-- One block, if there is no more. -/
theorem BS.one {k : Nat} {X Z : List Nat} (h : BS cf k X Z) (hl : X.length ≤ k) (hk : 0 < k) : Srd cf Z ∧ Z.Perm X := by
  cases h with
  | last _ _ _ h1 h2 => exact ⟨h1, h2⟩
  | cons X Z R S h0 h1 h2 h3 =>
    have hR : R = [] := List.eq_nil_of_length_eq_zero (by rw [List.length_append] at hl; omega)
    have hS : S = [] := List.eq_nil_of_length_eq_zero (by have := h3.len; rw [hR] at this; simpa using this)
    subst hR; subst hS
    rw [List.append_nil, List.append_nil]
    exact ⟨h1, h2⟩
/-- The first block of a row that is longer. -/
theorem BS.first {k : Nat} {X Z : List Nat} (h : BS cf k X Z) (hl : k ≤ X.length) : ∃ X1 R Z1 S, X = X1 ++ R ∧ Z = Z1 ++ S ∧ X1.length = k ∧ Srd cf Z1 ∧ Z1.Perm X1 ∧ BS cf k R S := by
  cases h with
  | last _ _ h0 h1 h2 => exact ⟨X, [], Z, [], (List.append_nil _).symm, (List.append_nil _).symm, by omega, h1, h2, BS.nil⟩
  | cons X Z R S h0 h1 h2 h3 => exact ⟨X, R, Z, S, rfl, rfl, h0, h1, h2, h3⟩
/-- What stands ahead is in blocks already. -/
def Dn (cf : Nat → Nat → Int) (k : Nat) (Pb P : List Nat) : Prop := ∀ R S, BS cf k R S → BS cf k (Pb ++ R) (P ++ S)
theorem Dn.nil {k : Nat} : Dn cf k [] [] := fun _ _ h => h
theorem Dn.snoc {k : Nat} {Pb P X Z : List Nat} (h : Dn cf k Pb P) (hl : X.length = k) (hs : Srd cf Z) (hp : Z.Perm X) : Dn cf k (Pb ++ X) (P ++ Z) := fun R S h2 => by
  have := h (X ++ R) (Z ++ S) (.cons X Z R S hl hs hp h2)
  rwa [← List.append_assoc, ← List.append_assoc] at this
theorem lt_parts {A X Y B : List Nat} {Z1 Z2 : List Nat} (h : (A ++ (X ++ (Y ++ B))).Pairwise (· < ·)) (h1 : Z1.Perm X) (h2 : Z2.Perm Y) : ∀ x ∈ Z1, ∀ y ∈ Z2, x < y := by
  obtain ⟨_, a, _⟩ := List.pairwise_append.1 h
  obtain ⟨_, _, c⟩ := List.pairwise_append.1 a
  intro x hx y hy
  exact c x (h1.mem_iff.1 hx) y (List.mem_append_left _ (h2.mem_iff.1 hy))
theorem Mrg.block {X1 X2 Z1 Z2 Z : List Nat} (h : Mrg cf Z1 Z2 Z) (h1 : Z1.Perm X1) (h2 : Z2.Perm X2) : Srd cf Z ∧ Z.Perm (X1 ++ X2) := ⟨h.2, h.1.trans (h1.append h2)⟩
end Go.Proofs.Ythpoeljnmdjjiaa.Srt
end
section
/-
  Sorting, by hand: slices.stableCmpFunc and slices.SortStableFunc.
-/
namespace Go.Proofs.Ythpoeljnmdjjiaa.Srt
open Go.RowKit Go.Proofs.YthpoeljnmdjjiaaW.PrintWords Go.Proofs.YthpoeljnmdjjiaaW.PrintLast Go.Proofs.YthpoeljnmdjjiaaW.PrintMore
set_option linter.unusedVariables false
set_option linter.unusedSimpArgs false
variable {cf : Nat → Nat → Int}

set_option maxHeartbeats 1000000 in
set_option maxRecDepth 100000 in
/-- Of no elements nothing is done. -/
theorem insertion_none (H : Nat → Hd) (w0 : World) (g cap : Nat) (f : Nat) (cb : Array Value) (l : List Nat) (n a : Nat) (w : World) (hl : a ≤ 1000000) (h : SR w0 g H l w) :
    Calls Try.prog 59 #[.slice (some ⟨g, 0, none⟩) n cap, .int .i64 a, .int .i64 a, .func (.func f) #[] cb] w fun e w' => e = .returned (.tuple #[]) ∧ SR w0 g H l w' := by
  have H0 := Aside0.mk h
  clear h
  go_enter Try.func59, Try.ntmps59
  go_wp2
  go_loopw [8] (fun v8 wr => v8 = .int .i64 ((a : Int) + 1) ∧ Aside0 (SR w0 g H l wr)) (fun _ _ => 0)
  case atStart => exact ⟨rfl, H0⟩
  case round =>
    clear H0
    obtain ⟨rfl, HS⟩ := hrel
    have q1 : decide ((a : Int) + 1 < (a : Int)) = false := decide_eq_false (by omega)
    go_wp2
    go_end0
    exact ⟨rfl, HS.out⟩

set_option maxHeartbeats 1000000 in
set_option maxRecDepth 100000 in
theorem stable_calls (C : Cf cf) (H : Nat → Hd) (w0 : World) (g cap : Nat) (f : Nat) (cb : Array Value) (ef : ∀ args w, (callFunc f args).run Try.prog w = .ok (.enter f args) w) (hcmp : CmpOK w0 g H f cb cf) (n : Nat) (hl : n ≤ 100000)
    (base : List Nat) (hbn : base.length = n) (hbp : base.Pairwise (· < ·)) (w : World) (h : SR w0 g H base w) :
    Calls Try.prog 43 #[.slice (some ⟨g, 0, none⟩) n cap, .int .i64 n, .func (.func f) #[] cb] w fun e w' => e = .returned (.tuple #[]) ∧ ∃ Z, Srd cf Z ∧ Z.Perm base ∧ SR w0 g H Z w' := by
  have H0 := Aside0.mk h
  have HCMP := Aside0.mk hcmp
  have HBN := Aside0.mk hbn
  have HBP := Aside0.mk hbp
  clear h hcmp hbn hbp
  go_enter Try.func43, Try.ntmps43
  go_wp2
  go_loopw [7, 8] (fun v7 v8 wr => ∃ (a b : Nat) (P Pb Rb : List Nat), v7 = .int .i64 a ∧ v8 = .int .i64 b ∧ Aside0 (b = a + 20) ∧ a ≤ n ∧ b ≤ n + 20 ∧ Aside0 (P.length = a ∧ a + Rb.length = n ∧ base = Pb ++ Rb) ∧ Aside0 (Dn cf 20 Pb P) ∧ Aside0 (SR w0 g H (P ++ Rb) wr)) (fun v7 _ _ => n - (intOf v7).toNat)
  case atStart => exact ⟨0, 20, [], [], base, rfl, rfl, ⟨rfl⟩, Nat.zero_le _, by omega, ⟨rfl, by rw [Nat.zero_add]; exact HBN.out, rfl⟩, ⟨Dn.nil⟩, H0⟩
  case round =>
    clear H0
    obtain ⟨a, b, P, Pb, Rb, rfl, rfl, HAB, han, hb20, HL, HD, HS⟩ := hrel
    have hab := HAB.out
    by_cases hlt : b ≤ n
    · have q1 : decide ((b : Int) ≤ (n : Int)) = true := decide_eq_true (by omega)
      have q2 : decide (b ≤ n) = true := decide_eq_true hlt
      obtain ⟨l1, l2, l3⟩ := HL.out
      have lX : (Rb.take 20).length = 20 := by rw [List.length_take]; omega
      have lQ : (Rb.drop 20).length = n - b := by rw [List.length_drop]; omega
      have eR : Rb = Rb.take 20 ++ Rb.drop 20 := (List.take_append_drop _ _).symm
      generalize Rb.take 20 = X at lX eR
      generalize Rb.drop 20 = Q at lQ eR
      have hxp : X.Pairwise (· < ·) := by
        have := HBP.out
        rw [l3, eR] at this
        exact (List.pairwise_append.1 (List.pairwise_append.1 this).2.1).1
      obtain ⟨hs, hp⟩ := isort_srd C X [] srd_nil hxp (fun s h => nomatch h)
      rw [List.nil_append] at hp
      have hS := HS.out
      rw [eR, ← List.append_assoc] at hS
      have hc := insertion_calls H w0 g cap f cb cf ef HCMP.out P X Q n a b wr (by simp only [List.length_append]; omega) (by omega) l1.symm (by omega) (by omega) hS
      obtain ⟨Z, hZ⟩ : ∃ Z, isort (ltc cf) [] X = Z := ⟨_, rfl⟩
      rw [hZ] at hc hs hp
      have HC := Aside0.mk hc
      have HD2 : Aside0 (Dn cf 20 (Pb ++ X) (P ++ Z)) := ⟨HD.out.snoc lX hs hp⟩
      have HL2 : Aside0 ((P ++ Z).length = b ∧ b + Q.length = n ∧ base = Pb ++ X ++ Q) := ⟨by rw [List.length_append, hp.length_eq]; omega, by omega, by rw [l3, eR, List.append_assoc]⟩
      clear hc hZ hs hp hS hxp l1 l2 l3 lX lQ eR HL HD HS hab
      go_wp2_with (go_at_call 59; refine HC.out.mono ?_; rintro e w5 ⟨rfl, hs5⟩; have HS5 := Aside0.mk hs5; clear hs5)
      go_roundw
      case rel => exact ⟨b, b + 20, P ++ Z, Pb ++ X, Q, by first | rfl | go_num, by first | rfl | go_num, ⟨rfl⟩, hlt, by omega, HL2, HD2, HS5⟩
      case measure => have := HAB.out; simp only [intOf]; omega
    · have q1 : decide ((b : Int) ≤ (n : Int)) = false := decide_eq_false (by omega)
      have q2 : decide (b ≤ n) = false := decide_eq_false hlt
      have hab := HAB.out
      have hC : ∀ w, SR w0 g H (P ++ Rb) w → Calls Try.prog 59 #[.slice (some ⟨g, 0, none⟩) n cap, .int .i64 a, .int .i64 n, .func (.func f) #[] cb] w fun e w' => e = .returned (.tuple #[]) ∧ ∃ l, BS cf 20 base l ∧ SR w0 g H l w' := by
        obtain ⟨l1, l2, l3⟩ := HL.out
        intro w hw
        rcases Nat.eq_zero_or_pos Rb.length with h0 | h0
        · have e : Rb = [] := List.eq_nil_of_length_eq_zero h0
          have : a = n := by omega
          subst this
          refine (insertion_none H w0 g cap f cb _ _ a w (by omega) hw).mono ?_
          rintro e2 w' ⟨h1, h2⟩
          exact ⟨h1, P ++ Rb, by rw [l3, e]; exact HD.out [] [] BS.nil, h2⟩
        · have hxp : Rb.Pairwise (· < ·) := by
            have := HBP.out
            rw [l3] at this
            exact (List.pairwise_append.1 this).2.1
          obtain ⟨hs, hp⟩ := isort_srd C Rb [] srd_nil hxp (fun s h => nomatch h)
          rw [List.nil_append] at hp
          refine (insertion_calls H w0 g cap f cb cf ef HCMP.out P Rb [] n a n w (by simp only [List.length_append, List.append_nil]; omega) (by omega) l1.symm (by omega) h0 (by rw [List.append_nil]; exact hw)).mono ?_
          rintro e2 w' ⟨h1, h2⟩
          rw [List.append_nil] at h2
          exact ⟨h1, _, by rw [l3]; exact HD.out _ _ (.last _ _ (by omega) hs hp), h2⟩
      have HC := Aside0.mk (hC wr HS.out)
      clear hC HD HS HL hab HAB
      go_wp2_with (go_at_call 59; refine HC.out.mono ?_; rintro e w5 ⟨rfl, l, hb5, hs5⟩; have HB5 := Aside0.mk hb5; have HS5 := Aside0.mk hs5; clear hs5 hb5 HC)
      go_loopw [6] (fun v6 wr => ∃ (k : Nat) (l : List Nat), v6 = .int .i64 k ∧ 20 ≤ k ∧ k ≤ 2 * n + 20 ∧ Aside0 (BS cf k base l) ∧ Aside0 (SR w0 g H l wr)) (fun v6 _ => n - (intOf v6).toNat)
      case atStart => exact ⟨20, l, rfl, Nat.le_refl _, by omega, HB5, HS5⟩
      case round =>
        clear HB5 HS5 q1 q2 hlt
        obtain ⟨k, l, rfl, hk20, hkn, HB, HS⟩ := hrel
        by_cases hlt : k < n
        · have q1 : decide ((k : Int) < (n : Int)) = true := decide_eq_true (by omega)
          have q2 : decide (k < n) = true := decide_eq_true hlt
          have HL0 : Aside0 (([] : List Nat).length = 0 ∧ 0 + base.length = n ∧ base = [] ++ base) := ⟨rfl, by rw [HBN.out]; omega, rfl⟩
          have HD0 : Aside0 (Dn cf (2 * k) ([] : List Nat) []) := ⟨Dn.nil⟩
          have HS0 : Aside0 (SR w0 g H ([] ++ l) wr) := HS
          have H2 : Aside0 (2 * k = 0 + 2 * k) := ⟨by omega⟩
          clear HS
          go_wp2
          go_loopw [7, 8] (fun v7 v8 wr => ∃ (a b : Nat) (P Pb R Rb : List Nat), v7 = .int .i64 a ∧ v8 = .int .i64 b ∧ Aside0 (b = a + 2 * k) ∧ a ≤ n ∧ b ≤ n + 2 * k ∧ Aside0 (P.length = a ∧ a + Rb.length = n ∧ base = Pb ++ Rb) ∧ Aside0 (Dn cf (2 * k) Pb P) ∧ Aside0 (BS cf k Rb R) ∧ Aside0 (SR w0 g H (P ++ R) wr)) (fun v7 _ _ => n - (intOf v7).toNat)
          case atStart => exact ⟨0, 2 * k, [], [], l, base, rfl, by first | rfl | go_num, H2, Nat.zero_le _, by omega, HL0, HD0, HB, HS0⟩
          case round =>
            clear HB HS0 HL0 HD0 H2
            obtain ⟨a, b, P, Pb, R, Rb, rfl, rfl, HAB, han, hb2, HL, HD, HB, HS⟩ := hrel
            by_cases hlt2 : b ≤ n
            · have q3 : decide ((b : Int) ≤ (n : Int)) = true := decide_eq_true (by omega)
              have q4 : decide (b ≤ n) = true := decide_eq_true hlt2
              have hab := HAB.out
              obtain ⟨l1, l2, l3⟩ := HL.out
              obtain ⟨X1, R1, Z1, S1, e1, e2, x1, s1, p1, hb1⟩ := HB.out.first (by omega)
              have lR1 : R1.length = n - a - k := by have := congrArg List.length e1; rw [List.length_append] at this; omega
              obtain ⟨X2, R2, Z2, S2, e3, e4, x2, s2, p2, hb2'⟩ := hb1.first (by omega)
              have lR2 : R2.length = n - b := by have := congrArg List.length e3; rw [List.length_append] at this; omega
              have hxy : ∀ x ∈ Z1, ∀ y ∈ Z2, x < y := by
                have := HBP.out
                rw [l3, e1, e3] at this
                exact lt_parts this p1 p2
              have hS : SR w0 g H (P ++ Z1 ++ Z2 ++ S2) wr := by have := HS.out; rw [e2, e4] at this; simpa only [List.append_assoc] using this
              have z1 := p1.length_eq
              have z2 := p2.length_eq
              have lS2 := hb2'.len
              have hc := symMerge_all C H w0 g cap f cb ef HCMP.out n (by omega) n P Z1 Z2 S2 a (a + k) b wr (by simp only [List.length_append]; omega) l1.symm (by omega) (by omega) (by omega) (by omega) (by omega) s1 s2 hxy hS
              have HC := Aside0.mk hc
              have HP : Aside0 (∀ Z, Mrg cf Z1 Z2 Z → Dn cf (2 * k) (Pb ++ (X1 ++ X2)) (P ++ Z) ∧ (P ++ Z).length = b) := ⟨fun Z hm => by
                obtain ⟨h1, h2⟩ := hm.block p1 p2
                have h3 := h2.length_eq
                rw [List.length_append] at h3
                exact ⟨HD.out.snoc (by rw [List.length_append]; omega) h1 h2, by rw [List.length_append]; omega⟩⟩
              have HB2 := Aside0.mk hb2'
              have HL2 : Aside0 (b + R2.length = n ∧ base = Pb ++ (X1 ++ X2) ++ R2) := ⟨by omega, by rw [l3, e1, e3]; simp only [List.append_assoc]⟩
              clear hc hS hxy l1 l2 l3 lR1 lR2 lS2 z1 z2 x1 x2 s1 s2 p1 p2 hb1 hb2' e1 e2 e3 e4 HL HD HB HS hab
              go_wp2_with (go_at_call 60; refine HC.out.mono ?_; rintro e w6 ⟨rfl, Z, hm6, hs6⟩; have HM6 := Aside0.mk hm6; have HS6 := Aside0.mk hs6; clear hs6 hm6 HC)
              go_roundw
              case rel => exact ⟨b, b + 2 * k, P ++ Z, Pb ++ (X1 ++ X2), S2, R2, by first | rfl | go_num, by first | rfl | go_num, ⟨rfl⟩, hlt2, by omega, ⟨(HP.out Z HM6.out).2, HL2.out⟩, ⟨(HP.out Z HM6.out).1⟩, HB2, HS6⟩
              case measure => have := HAB.out; simp only [intOf]; omega
            · have q3 : decide ((b : Int) ≤ (n : Int)) = false := decide_eq_false (by omega)
              have q4 : decide (b ≤ n) = false := decide_eq_false hlt2
              have hab := HAB.out
              by_cases hlt3 : a + k < n
              · have q5 : decide ((a : Int) + (k : Int) < (n : Int)) = true := decide_eq_true (by omega)
                have q6 : decide (a + k < n) = true := decide_eq_true hlt3
                obtain ⟨l1, l2, l3⟩ := HL.out
                obtain ⟨X1, R1, Z1, S1, e1, e2, x1, s1, p1, hb1⟩ := HB.out.first (by omega)
                have lR1 : R1.length = n - a - k := by have := congrArg List.length e1; rw [List.length_append] at this; omega
                obtain ⟨s2, p2⟩ := hb1.one (by omega) (by omega)
                have hxy : ∀ x ∈ Z1, ∀ y ∈ S1, x < y := by
                  have := HBP.out
                  rw [l3, e1] at this
                  exact lt_parts (B := []) (by rw [List.append_nil]; exact this) p1 p2
                have hS : SR w0 g H (P ++ Z1 ++ S1 ++ []) wr := by have := HS.out; rw [e2] at this; simpa only [List.append_assoc, List.append_nil] using this
                have z1 := p1.length_eq
                have z2 := p2.length_eq
                have hc := symMerge_all C H w0 g cap f cb ef HCMP.out n (by omega) n P Z1 S1 [] a (a + k) n wr (by simp only [List.length_append, List.append_nil]; omega) l1.symm (by omega) (by omega) (by omega) (by omega) (by omega) s1 s2 hxy hS
                have HC := Aside0.mk hc
                have HP : Aside0 (∀ Z, Mrg cf Z1 S1 Z → BS cf (2 * k) base (P ++ Z ++ [])) := ⟨fun Z hm => by
                  obtain ⟨h1, h2⟩ := hm.block p1 p2
                  rw [List.append_nil, l3, e1]
                  exact HD.out _ _ (.last _ _ (by rw [List.length_append]; omega) h1 h2)⟩
                clear hc hS hxy l1 l2 l3 lR1 z1 z2 x1 s1 s2 p1 p2 hb1 e1 e2 HL HD HB HS hab
                go_wp2_with (go_at_call 60; refine HC.out.mono ?_; rintro e w6 ⟨rfl, Z, hm6, hs6⟩; have HM6 := Aside0.mk hm6; have HS6 := Aside0.mk hs6; clear hs6 hm6 HC)
                go_roundw
                case rel => exact ⟨2 * k, _, by first | rfl | go_num, by omega, by omega, ⟨HP.out Z HM6.out⟩, HS6⟩
                case measure => simp only [intOf]; omega
              · have q5 : decide ((a : Int) + (k : Int) < (n : Int)) = false := decide_eq_false (by omega)
                have q6 : decide (a + k < n) = false := decide_eq_false hlt3
                have HB7 : Aside0 (BS cf (2 * k) base (P ++ R)) := ⟨by
                  obtain ⟨l1, l2, l3⟩ := HL.out
                  obtain ⟨s2, p2⟩ := HB.out.one (by omega) (by omega)
                  rw [l3]
                  exact HD.out _ _ (.last _ _ (by omega) s2 p2)⟩
                clear HD HL HB hab HAB
                go_wp2
                go_roundw
                case rel => exact ⟨2 * k, _, by first | rfl | go_num, by omega, by omega, HB7, HS⟩
                case measure => simp only [intOf]; omega
        · have q1 : decide ((k : Int) < (n : Int)) = false := decide_eq_false (by omega)
          have q2 : decide (k < n) = false := decide_eq_false hlt
          have HE : Aside0 (Srd cf l ∧ l.Perm base) := ⟨HB.out.one (by rw [HBN.out]; omega) (by omega)⟩
          clear HB
          go_wp2
          go_end0
          exact ⟨rfl, l, HE.out.1, HE.out.2, HS.out⟩

set_option maxRecDepth 100000 in
theorem sortStable_calls (C : Cf cf) (H : Nat → Hd) (w0 : World) (g cap : Nat) (f : Nat) (cb : Array Value) (ef : ∀ args w, (callFunc f args).run Try.prog w = .ok (.enter f args) w) (hcmp : CmpOK w0 g H f cb cf) (n : Nat) (hl : n ≤ 100000)
    (base : List Nat) (hbn : base.length = n) (hbp : base.Pairwise (· < ·)) (w : World) (h : SR w0 g H base w) :
    Calls Try.prog 26 #[.slice (some ⟨g, 0, none⟩) n cap, .func (.func f) #[] cb] w fun e w' => e = .returned (.tuple #[]) ∧ ∃ Z, Srd cf Z ∧ Z.Perm base ∧ SR w0 g H Z w' := by
  have HC := Aside0.mk (stable_calls C H w0 g cap f cb ef hcmp n hl base hbn hbp w h)
  clear hcmp hbn hbp h
  go_enter Try.func26, Try.ntmps26
  go_wp2_with (go_at_call 43; refine HC.out.mono ?_; rintro e w6 ⟨rfl, hs6⟩; have HS6 := Aside0.mk hs6; clear hs6 HC)
  go_end0
  exact ⟨rfl, HS6.out⟩

end Go.Proofs.Ythpoeljnmdjjiaa.Srt
end
section
/-
  Sorting, by hand: slices.SortFunc of this program is the kit's (its numbers told).
-/
namespace Go.Proofs.Ythpoeljnmdjjiaa.Srt
set_option maxRecDepth 100000

def srtRen : Go.Shelf.Ren := ⟨fun x => match x with | 6 => 30 | 15 => 47 | 14 => 46 | 28 => 71 | 29 => 72 | 20 => 59 | 21 => 64 | 22 => 65 | 23 => 66 | 24 => 67 | 25 => 68 | 26 => 69 | 27 => 70 | 46 => 82 | 47 => 83 | 48 => 84 | 49 => 85 | 50 => 86 | 57 => 91 | n => n, fun x => match x with | 22 => 22 | 24 => 26 | 25 => 44 | 3 => 3 | 39 => 59 | 0 => 0 | 53 => 79 | 55 => 64 | 4 => 4 | 46 => 72 | 45 => 71 | 50 => 76 | 5 => 5 | 9 => 9 | 66 => 85 | 70 => 89 | 76 => 96 | 77 => 97 | n => n, fun n => n⟩
theorem srtLays : SlLaysF.n6 Try.prog srtRen where
  mixed := by kernel_rfl
  f6 := ⟨"slices.SortFunc[[][]astragal/api.Val,[]astragal/api.Val]", by decide, Try.func30.trans (congrArg some (by kernel_rfl))⟩
  f14 := ⟨"slices.pdqsortCmpFunc[[]astragal/api.Val]", by decide, Try.func46.trans (congrArg some (by kernel_rfl))⟩
  f15 := Try.func47.trans (congrArg some (by kernel_rfl))
  f20 := ⟨"slices.insertionSortCmpFunc[[]astragal/api.Val]", by decide, Try.func59.trans (congrArg some (by kernel_rfl))⟩
  f21 := ⟨"slices.heapSortCmpFunc[[]astragal/api.Val]", by decide, Try.func64.trans (congrArg some (by kernel_rfl))⟩
  f22 := ⟨"slices.breakPatternsCmpFunc[[]astragal/api.Val]", by decide, Try.func65.trans (congrArg some (by kernel_rfl))⟩
  f23 := ⟨"slices.choosePivotCmpFunc[[]astragal/api.Val]", by decide, Try.func66.trans (congrArg some (by kernel_rfl))⟩
  f24 := ⟨"slices.reverseRangeCmpFunc[[]astragal/api.Val]", by decide, Try.func67.trans (congrArg some (by kernel_rfl))⟩
  f25 := ⟨"slices.partialInsertionSortCmpFunc[[]astragal/api.Val]", by decide, Try.func68.trans (congrArg some (by kernel_rfl))⟩
  f26 := ⟨"slices.partitionEqualCmpFunc[[]astragal/api.Val]", by decide, Try.func69.trans (congrArg some (by kernel_rfl))⟩
  f27 := ⟨"slices.partitionCmpFunc[[]astragal/api.Val]", by decide, Try.func70.trans (congrArg some (by kernel_rfl))⟩
  f28 := Try.func71.trans (congrArg some (by kernel_rfl))
  f29 := Try.func72.trans (congrArg some (by kernel_rfl))
  f46 := ⟨"slices.siftDownCmpFunc[[]astragal/api.Val]", by decide, Try.func82.trans (congrArg some (by kernel_rfl))⟩
  f47 := Try.func83.trans (congrArg some (by kernel_rfl))
  f48 := Try.func84.trans (congrArg some (by kernel_rfl))
  f49 := ⟨"slices.medianAdjacentCmpFunc[[]astragal/api.Val]", by decide, Try.func85.trans (congrArg some (by kernel_rfl))⟩
  f50 := ⟨"slices.medianCmpFunc[[]astragal/api.Val]", by decide, Try.func86.trans (congrArg some (by kernel_rfl))⟩
  f57 := ⟨"slices.order2CmpFunc[[]astragal/api.Val]", by decide, Try.func91.trans (congrArg some (by kernel_rfl))⟩
  t0 := Try.underlying0
  a0 := Try.isAgg0
  z0 := Try.sizeOf0
  v0 := Try.zeroValue0
  t3 := Try.underlying3
  a3 := Try.isAgg3
  z3 := Try.sizeOf3
  v3 := Try.zeroValue3
  t4 := Try.underlying4
  a4 := Try.isAgg4
  z4 := Try.sizeOf4
  v4 := Try.zeroValue4
  t5 := Try.underlying5
  a5 := Try.isAgg5
  z5 := Try.sizeOf5
  v5 := Try.zeroValue5
  t9 := Try.underlying9
  a9 := Try.isAgg9
  z9 := Try.sizeOf9
  v9 := Try.zeroValue9
  t22 := Try.underlying22
  a22 := Try.isAgg22
  z22 := Try.sizeOf22
  v22 := Try.zeroValue22
  a24 := Try.isAgg26
  z24 := Try.sizeOf26
  t25 := Try.underlying44
  a25 := Try.isAgg44
  z25 := Try.sizeOf44
  v25 := Try.zeroValue44
  t39 := Try.underlying59
  a39 := Try.isAgg59
  z39 := Try.sizeOf59
  v39 := Try.zeroValue59
  t45 := Try.underlying71
  a45 := Try.isAgg71
  z45 := Try.sizeOf71
  v45 := Try.zeroValue71
  t46 := Try.underlying72
  a46 := Try.isAgg72
  z46 := Try.sizeOf72
  v46 := Try.zeroValue72
  t50 := Try.underlying76
  a50 := Try.isAgg76
  z50 := Try.sizeOf76
  v50 := Try.zeroValue76
  t53 := Try.underlying79
  a53 := Try.isAgg79
  z53 := Try.sizeOf79
  v53 := Try.zeroValue79
  t55 := Try.underlying64
  a55 := Try.isAgg64
  z55 := Try.sizeOf64
  v55 := Try.zeroValue64
  t66 := Try.underlying85
  a66 := Try.isAgg85
  z66 := Try.sizeOf85
  v66 := Try.zeroValue85
  t70 := Try.underlying89
  a70 := Try.isAgg89
  z70 := Try.sizeOf89
  v70 := Try.zeroValue89
  t76 := Try.underlying96
  a76 := Try.isAgg96
  z76 := Try.sizeOf96
  v76 := Try.zeroValue96
  t77 := Try.underlying97
  a77 := Try.isAgg97
  z77 := Try.sizeOf97
  v77 := Try.zeroValue97
end Go.Proofs.Ythpoeljnmdjjiaa.Srt
end
