/-
  Sorting, by hand: slices.symMergeCmpFunc with one element on the right.
-/
import Derived.Test.YthpoeljnmdjjiaaStD
namespace Go.Proofs.Ythpoeljnmdjjiaa.Srt
open Go.RowKit Go.Proofs.YthpoeljnmdjjiaaW.PrintWords Go.Proofs.YthpoeljnmdjjiaaW.PrintLast Go.Proofs.YthpoeljnmdjjiaaW.PrintMore
set_option linter.unusedVariables false
set_option linter.unusedSimpArgs false
variable {cf : Nat → Nat → Int}

theorem getD_X (P X : List Nat) (R : List Nat) (a c : Nat) (ha : P.length = a) (hc : c < X.length) : (P ++ X ++ R).getD (a + c) 0 = X.getD c 0 := by
  rw [List.getD_eq_getElem?_getD, List.getD_eq_getElem?_getD, List.getElem?_append_left (by rw [List.length_append]; omega), List.getElem?_append_right (by omega), ha, Nat.add_sub_cancel_left]
theorem mrg_last {y : Nat} {X : List Nat} (hs : Srd cf X) (t : Nat) (ht : t ≤ X.length) (h1 : ∀ c, c < X.length → c < t → Ah cf (X.getD c 0) y) (h2 : ∀ c, c < X.length → t ≤ c → Ah cf y (X.getD c 0)) : Mrg cf X [y] (X.take t ++ y :: X.drop t) := by
  have h := mrg_one hs t ht h1 h2
  exact ⟨h.1.trans (List.perm_append_comm (l₁ := [y]) (l₂ := X)), h.2⟩

set_option maxHeartbeats 1000000 in
set_option maxRecDepth 100000 in
theorem symMerge_right (C : Cf cf) (H : Nat → Hd) (w0 : World) (g cap : Nat) (f : Nat) (cb : Array Value) (ef : ∀ args w, (callFunc f args).run Try.prog w = .ok (.enter f args) w) (hcmp : CmpOK w0 g H f cb cf)
    (P X : List Nat) (y : Nat) (Q : List Nat) (n a m b : Nat) (w : World) (hn : (P ++ X ++ [y] ++ Q).length = n) (hl : n ≤ 1000000) (ha : a = P.length) (hm : m = P.length + X.length) (hb : b = P.length + X.length + 1) (hX : 1 < X.length) (hs : Srd cf X) (hx : ∀ x ∈ X, x < y)
    (h : SR w0 g H (P ++ X ++ [y] ++ Q) w) :
    Calls Try.prog 60 #[.slice (some ⟨g, 0, none⟩) n cap, .int .i64 a, .int .i64 m, .int .i64 b, .func (.func f) #[] cb] w fun e w' => e = .returned (.tuple #[]) ∧ ∃ Z, Mrg cf X [y] Z ∧ SR w0 g H (P ++ Z ++ Q) w' := by
  have hlen : P.length + X.length + 1 + Q.length = n := by rw [← hn]; simp only [List.length_append, List.length_singleton]
  have hmb : b = m + 1 := by omega
  have hbn : a + 1 < m ∧ m + 1 ≤ n := by omega
  have HPL : Aside0 (P.length = a) := ⟨ha.symm⟩
  have HBL : Aside0 (a + X.length = m) := ⟨by omega⟩
  have H0 := Aside0.mk h
  have HCMP := Aside0.mk hcmp
  have mixed := follows_mixed
  have q0 : ((m : Int) - (a : Int) == 1) = false := by rw [beq_eq_false_iff_ne]; omega
  have q1 : ((m : Int) + 1 - (m : Int) == 1) = true := by rw [beq_iff_eq]; omega
  clear h hn hcmp hlen hb
  subst hmb
  clear hm ha
  have HI0 : Aside0 (∀ c, c < X.length → a + c < a → Ah cf (X.getD c 0) y) := ⟨fun c _ h => by omega⟩
  have HJ0 : Aside0 (∀ c, c < X.length → m ≤ a + c → Ah cf y (X.getD c 0)) := ⟨fun c hc h => by have := HBL.out; omega⟩
  go_enter Try.func60, Try.ntmps60
  go_wp2
  go_loopw [14, 15] (fun v14 v15 wr => ∃ (i j : Nat), v14 = .int .i64 i ∧ v15 = .int .i64 j ∧ a ≤ i ∧ i ≤ j ∧ j ≤ m ∧ Aside0 (SR w0 g H (P ++ X ++ [y] ++ Q) wr) ∧ Aside0 (∀ c, c < X.length → a + c < i → Ah cf (X.getD c 0) y) ∧ Aside0 (∀ c, c < X.length → j ≤ a + c → Ah cf y (X.getD c 0))) (fun v14 v15 _ => (intOf v15).toNat - (intOf v14).toNat)
  case atStart => exact ⟨a, m, rfl, rfl, Nat.le_refl _, by omega, Nat.le_refl _, H0, HI0, HJ0⟩
  case round =>
    clear H0 HI0 HJ0
    obtain ⟨i, j, rfl, rfl, hai, hij, hjb, HS, HI, HJ⟩ := hrel
    by_cases hlt : i < j
    · have q2 : decide ((i : Int) < (j : Int)) = true := decide_eq_true (by omega)
      have q3 : decide (i < j) = true := decide_eq_true hlt
      obtain ⟨h, hh⟩ : ∃ h : Nat, ((i : Int) + (j : Int)) / 2 = (h : Int) := ⟨(i + j) / 2, by omega⟩
      have hih : i ≤ h ∧ h < j := by omega
      obtain ⟨c, hc⟩ : ∃ c, h = a + c := ⟨h - a, by omega⟩
      have hcX : c < X.length := by have := HBL.out; omega
      have gx : (P ++ X ++ [y] ++ Q).getD h 0 = X.getD c 0 := by
        have e : P ++ X ++ [y] ++ Q = P ++ X ++ ([y] ++ Q) := by simp only [List.append_assoc]
        rw [hc, e]; exact getD_X P X _ a c HPL.out hcX
      have gy : (P ++ X ++ [y] ++ Q).getD m 0 = y := by
        have e : P ++ X ++ [y] ++ Q = (P ++ X) ++ y :: Q := by simp
        have l : (P ++ X).length = m := by rw [List.length_append, HPL.out]; exact HBL.out
        rw [e, ← l]; exact getD_mid _ _ _
      have hxy : X.getD c 0 < y := hx _ (by rw [List.getD_eq_getElem?_getD, List.getElem?_eq_getElem hcX]; exact List.getElem_mem _)
      have hlen2 : h < (P ++ X ++ [y] ++ Q).length ∧ m < (P ++ X ++ [y] ++ Q).length := by
        have e1 := HPL.out
        have e2 := HBL.out
        simp only [List.length_append, List.length_singleton]
        omega
      have hXs := srd_at hs hcX
      obtain ⟨x, hxc⟩ : ∃ x, X.getD c 0 = x := ⟨_, rfl⟩
      have HXC := Aside0.mk hxc
      rw [hxc] at gx hxy hXs
      clear hxc
      obtain ⟨x1, x2, x3, hHx⟩ : ∃ a b c, H x = (a, b, c) := ⟨_, _, _, rfl⟩
      obtain ⟨y1, y2, y3, hHy⟩ : ∃ a b c, H y = (a, b, c) := ⟨_, _, _, rfl⟩
      have hfacts : ∀ w1, Below wr.heap.size wr w1 → SR w0 g H (P ++ X ++ [y] ++ Q) w1 ∧ w1.cell? ⟨g, m, none⟩ = some (.slice y1 y2 y3) ∧ w1.cell? ⟨g, h, none⟩ = some (.slice x1 x2 x3) := fun w1 hb => by
        have h1 := HS.out.later hb
        have c1 := h1.cell m hlen2.2
        have c2 := h1.cell h hlen2.1
        rw [gy, hHy] at c1
        rw [gx, hHx] at c2
        exact ⟨h1, c1, c2⟩
      have HF := Aside0.mk hfacts
      have HC : Aside0 (∀ w1, Below wr.heap.size wr w1 → Calls Try.prog f (#[.slice y1 y2 y3, .slice x1 x2 x3] ++ cb) w1 fun e w' => e = .returned (.int .i64 (cf y x)) ∧ Below w1.heap.size w1 w') := ⟨fun w1 hb => by
        have h1 := (hfacts w1 hb).1
        have := HCMP.out y x w1 h1.below h1.keep
        simpa only [hHx, hHy, hdr] using this⟩
      have p1 : (0 ≤ (h : Int)) = True := eq_true (by omega)
      have p2 : ((h : Int) < (n : Int)) = True := eq_true (by omega)
      have p3 : (0 ≤ (m : Int)) = True := eq_true (by omega)
      have p4 : ((m : Int) < (n : Int)) = True := eq_true (by omega)
      have p5 : (h < n) = True := eq_true (by omega)
      have p6 : (m < n) = True := eq_true (by omega)
      have HXS := Aside0.mk hXs
      have Hc := Aside0.mk hc
      have Hxy := Aside0.mk hxy
      have HD := Aside0.mk (below_drew (Below.refl wr.heap.size wr))
      clear gy gx hlen2 hXs hfacts HS hc hxy hcX
      go_upto_region 17 with (fail)
      clear hh
      refine start_ (n := 12) (S := fun w' => (w'.cell? ⟨g, m, none⟩ = some (.slice y1 y2 y3) ∧ w'.cell? ⟨g, h, none⟩ = some (.slice x1 x2 x3))) (ds := []) #[false, false, false, false, false, false, false, false, false, false, false, false] (by kernel_rfl) rfl rfl ((HF.out wr.drew HD.out).2) (fun hHeld => ?_)
      refine pure_ (i := 0) (N := some 92) (v := ?_) (a' := ?_) #[true, false, false, false, false, false, false, false, false, false, false, false] rfl rfl (by kernel_rfl) (fun _ _ _ h => h) (Or.inl ⟨by rfl, ?_⟩) ?_ ?_
      rotate_left
      · intro w'
        go_simp
        with_reducible rfl
      rotate_left
      · simp only [Act.put, List.setIfInBounds_toArray, List.set_cons_zero, List.set_cons_succ]
        rfl
      refine pure_ (i := 1) (N := some 93) (v := ?_) (a' := ?_) #[true, true, false, false, false, false, false, false, false, false, false, false] rfl rfl (by kernel_rfl) (fun _ _ _ h => h) (Or.inl ⟨by rfl, ?_⟩) ?_ ?_
      rotate_left
      · intro w'
        go_simp
        with_reducible rfl
      rotate_left
      · simp only [Act.put, List.setIfInBounds_toArray, List.set_cons_zero, List.set_cons_succ]
        rfl
      refine pure_ (i := 2) (N := some 94) (v := ?_) (a' := ?_) #[true, true, true, false, false, false, false, false, false, false, false, false] rfl rfl (by kernel_rfl) (fun _ _ _ h => h) (Or.inl ⟨by rfl, ?_⟩) ?_ ?_
      rotate_left
      · intro w'
        go_simp
        with_reducible rfl
      rotate_left
      · simp only [Act.put, List.setIfInBounds_toArray, List.set_cons_zero, List.set_cons_succ]
        rfl
      refine pure_ (i := 3) (N := some 95) (v := ?_) (a' := ?_) #[true, true, true, true, false, false, false, false, false, false, false, false] rfl rfl (by kernel_rfl) (fun _ _ _ h => h) (Or.inl ⟨by rfl, ?_⟩) ?_ ?_
      rotate_left
      · intro w'
        go_simp
        with_reducible rfl
      rotate_left
      · simp only [Act.put, List.setIfInBounds_toArray, List.set_cons_zero, List.set_cons_succ]
        rfl
      refine take_ (i := 4) (N := some 96) (v := ?_) (a' := ?_) #[true, true, true, true, true, false, false, false, false, false, false, false] rfl rfl (by kernel_rfl) (fun _ _ _ h => h) (Or.inl ⟨by rfl, ?_⟩) hHeld ?_ ?_
      rotate_left
      · rintro w' ⟨s0, s1⟩
        go_simp
        with_reducible rfl
      rotate_left
      · simp only [Act.put, List.setIfInBounds_toArray, List.set_cons_zero, List.set_cons_succ]
        rfl
      refine pure_ (i := 5) (N := some 97) (v := ?_) (a' := ?_) #[true, true, true, true, true, true, false, false, false, false, false, false] rfl rfl (by kernel_rfl) (fun _ _ _ h => h) (Or.inl ⟨by rfl, ?_⟩) ?_ ?_
      rotate_left
      · intro w'
        go_simp
        with_reducible rfl
      rotate_left
      · simp only [Act.put, List.setIfInBounds_toArray, List.set_cons_zero, List.set_cons_succ]
        rfl
      refine pure_ (i := 6) (N := some 98) (v := ?_) (a' := ?_) #[true, true, true, true, true, true, true, false, false, false, false, false] rfl rfl (by kernel_rfl) (fun _ _ _ h => h) (Or.inl ⟨by rfl, ?_⟩) ?_ ?_
      rotate_left
      · intro w'
        go_simp
        with_reducible rfl
      rotate_left
      · simp only [Act.put, List.setIfInBounds_toArray, List.set_cons_zero, List.set_cons_succ]
        rfl
      refine pure_ (i := 7) (N := some 99) (v := ?_) (a' := ?_) #[true, true, true, true, true, true, true, true, false, false, false, false] rfl rfl (by kernel_rfl) (fun _ _ _ h => h) (Or.inl ⟨by rfl, ?_⟩) ?_ ?_
      rotate_left
      · intro w'
        go_simp
        with_reducible rfl
      rotate_left
      · simp only [Act.put, List.setIfInBounds_toArray, List.set_cons_zero, List.set_cons_succ]
        rfl
      refine take_ (i := 8) (N := some 100) (v := ?_) (a' := ?_) #[true, true, true, true, true, true, true, true, true, false, false, false] rfl rfl (by kernel_rfl) (fun _ _ _ h => h) (Or.inl ⟨by rfl, ?_⟩) hHeld ?_ ?_
      rotate_left
      · rintro w' ⟨s0, s1⟩
        go_simp
        with_reducible rfl
      rotate_left
      · simp only [Act.put, List.setIfInBounds_toArray, List.set_cons_zero, List.set_cons_succ]
        rfl
      refine one_ (i := 9) (N := some 101) #[true, true, true, true, true, true, true, true, true, true, false, false] rfl rfl (by kernel_rfl) (by decide) (fun K hK => ?_)
      refine call_ f (#[.slice y1 y2 y3, .slice x1 x2 x3] ++ cb) (by rfl) rfl ?hrun ?_
      case hrun => have he := ef; unfold execOp; simp [resolve, Deferred.ofValue, invoke, Act.eval, he]
      (with_reducible refine (HC.out _ HD.out).mono ?_)
      rintro e w4 ⟨rfl, hb4⟩
      have HB4 := Aside0.mk hb4
      clear hb4
      refine ⟨_, rfl, ?_⟩
      refine hK.out _ _ (HF.out w4 (HD.out.trans (HB4.out.mono (Nat.le_refl _)))).2 (fun hHeld => ?_)
      clear hK K
      refine norm_ (a' := ?_) ?_ ?_
      rotate_left
      · show Act.put _ (some 101) _ = _
        simp only [Act.put, List.setIfInBounds_toArray, List.set_cons_zero, List.set_cons_succ]
        rfl
      refine pure_ (i := 10) (N := some 102) (v := ?_) (a' := ?_) #[true, true, true, true, true, true, true, true, true, true, true, false] rfl rfl (by kernel_rfl) (fun _ _ _ h => h) (Or.inl ⟨by rfl, ?_⟩) ?_ ?_
      rotate_left
      · intro w'
        go_simp
        with_reducible rfl
      rotate_left
      · simp only [Act.put, List.setIfInBounds_toArray, List.set_cons_zero, List.set_cons_succ]
        rfl
      refine pure_ (i := 11) (N := some 103) (v := ?_) (a' := ?_) #[true, true, true, true, true, true, true, true, true, true, true, true] rfl rfl (by kernel_rfl) (fun _ _ _ h => h) (Or.inl ⟨by rfl, ?_⟩) ?_ ?_
      rotate_left
      · intro w'
        go_simp
        with_reducible rfl
      rotate_left
      · simp only [Act.put, List.setIfInBounds_toArray, List.set_cons_zero, List.set_cons_succ]
        rfl
      refine done_ (by kernel_rfl) ?_
      have HD4 : Aside0 (Below wr.heap.size wr w4) := ⟨HD.out.trans (HB4.out.mono (Nat.le_refl _))⟩
      have HS4 := Aside0.mk (HF.out w4 HD4.out).1
      clear HB4 HD HC hHeld HF HD4
      by_cases hlt2 : cf y x < 0
      · have q5 : decide (cf y x < 0) = true := decide_eq_true hlt2
        have HJ2 : Aside0 (∀ c, c < X.length → h ≤ a + c → Ah cf y (X.getD c 0)) := ⟨fun d hd hle => by
          have hyx := (ahead_right C Hxy.out).1 (decide_eq_true hlt2)
          rcases Nat.lt_or_ge c d with h1 | h1
          · exact hyx.trans C (HXS.out.2 d h1 hd)
          · have : d = c := by have := Hc.out; omega
            rw [this, HXC.out]; exact hyx⟩
        rw [q5]
        have q6 : (cf y x < 0) = True := eq_true hlt2
        clear hlt2 HJ
        go_wp2
        go_roundw
        case rel => exact ⟨i, h, rfl, by first | rfl | go_num, hai, by omega, by omega, HS4, HI, HJ2⟩
        case measure => simp [intOf]; omega
      · have q5 : decide (cf y x < 0) = false := decide_eq_false hlt2
        have HI2 : Aside0 (∀ c, c < X.length → a + c < h + 1 → Ah cf (X.getD c 0) y) := ⟨fun d hd hlt => by
          have hxy := (not_ahead_right C Hxy.out).1 (decide_eq_false hlt2)
          rcases Nat.lt_or_ge d c with h1 | h1
          · exact (HXS.out.1 d h1).trans C hxy
          · have : d = c := by have := Hc.out; omega
            rw [this, HXC.out]; exact hxy⟩
        rw [q5]
        have q6 : (cf y x < 0) = False := eq_false hlt2
        clear hlt2 HI
        go_wp2
        go_roundw
        case rel => exact ⟨h + 1, j, by first | rfl | go_num, rfl, by omega, by omega, hjb, HS4, HI2, HJ⟩
        case measure => simp [intOf]; omega
    · have q2 : decide ((i : Int) < (j : Int)) = false := decide_eq_false (by omega)
      have q3 : decide (i < j) = false := decide_eq_false hlt
      obtain rfl : i = j := by omega
      obtain ⟨t, ht⟩ : ∃ t, a + t = i := ⟨i - a, by omega⟩
      have htX : t ≤ X.length := by have := HBL.out; omega
      have HM : Aside0 (Mrg cf X [y] (X.take t ++ y :: X.drop t)) := ⟨mrg_last hs t htX (fun c h1 h2 => HI.out c h1 (by omega)) (fun c h1 h2 => HJ.out c h1 (by omega))⟩
      have HT := Aside0.mk ht
      have HTX := Aside0.mk htX
      have HS0 : Aside0 (SR w0 g H (P ++ X.take X.length ++ y :: (X.drop X.length ++ Q)) wr) := ⟨by have := HS.out; rw [List.take_length, List.drop_length]; simpa using this⟩
      have HDL : Aside0 (X.length ≤ X.length) := ⟨Nat.le_refl _⟩
      clear HI HJ ht htX HS
      go_wp2
      go_loopw [17] (fun v17 wr => ∃ (k d : Nat), v17 = .int .i64 k ∧ Aside0 (a + d = k) ∧ Aside0 (d ≤ X.length) ∧ i ≤ k ∧ k ≤ m ∧ Aside0 (SR w0 g H (P ++ X.take d ++ y :: (X.drop d ++ Q)) wr)) (fun v17 _ => (intOf v17).toNat)
      case atStart => exact ⟨m, X.length, rfl, HBL, HDL, by omega, Nat.le_refl _, HS0⟩
      case round =>
        clear HS0 HDL q2 q3
        obtain ⟨k, d, rfl, HK, HDX, hik, hkm, HS⟩ := hrel
        by_cases hlt3 : i < k
        · obtain ⟨kp, rfl⟩ : ∃ kp, k = kp + 1 := ⟨k - 1, by omega⟩
          obtain ⟨c, hdc⟩ : ∃ c, d = c + 1 := ⟨d - 1, by have h1 := HK.out; have h2 := HT.out; omega⟩
          have q4 : decide ((kp : Int) + 1 > (i : Int)) = true := decide_eq_true (by omega)
          have q5 : decide ((i : Int) < (kp : Int) + 1) = true := decide_eq_true (by omega)
          have hcX : c < X.length := by have := HDX.out; omega
          have hl1 : (P ++ X.take c).length = kp := by rw [List.length_append, List.length_take, HPL.out]; have := HK.out; omega
          have hd : X.take d = X.take c ++ [X[c]] := by rw [hdc]; exact List.take_succ_eq_append_getElem hcX
          obtain ⟨x, hxc⟩ : ∃ x, X[c] = x := ⟨_, rfl⟩
          have hdr2 : X.drop c = x :: X.drop d := by rw [hdc, ← hxc]; exact List.drop_eq_getElem_cons hcX
          rw [hxc] at hd
          clear hxc
          have hS : SR w0 g H (P ++ X.take c ++ x :: ([] ++ y :: (X.drop d ++ Q))) wr := by
            have := HS.out
            rw [hd] at this
            simpa only [List.append_assoc, List.cons_append, List.nil_append] using this
          have hsw := swl_mid (P ++ X.take c) x [] y (X.drop d ++ Q)
          have hn2 : P ++ X.take c ++ y :: ([] ++ x :: (X.drop d ++ Q)) = P ++ X.take c ++ y :: (X.drop c ++ Q) := by rw [hdr2]; rfl
          rw [hl1, hn2, List.length_nil, Nat.add_zero] at hsw
          have gx : (P ++ X.take c ++ x :: ([] ++ y :: (X.drop d ++ Q))).getD kp 0 = x := by rw [← hl1]; exact getD_mid _ _ _
          have gy : (P ++ X.take c ++ x :: ([] ++ y :: (X.drop d ++ Q))).getD (kp + 1) 0 = y := by
            have e : P ++ X.take c ++ x :: ([] ++ y :: (X.drop d ++ Q)) = (P ++ X.take c ++ [x]) ++ y :: (X.drop d ++ Q) := by simp only [List.append_assoc, List.cons_append, List.nil_append]
            have l : (P ++ X.take c ++ [x]).length = kp + 1 := by rw [List.length_append, hl1]; rfl
            rw [e, ← l]; exact getD_mid _ _ _
          have hin : kp + 1 < (P ++ X.take c ++ x :: ([] ++ y :: (X.drop d ++ Q))).length := by rw [List.length_append, hl1]; simp
          have ck := hS.cell kp (by omega)
          have ck1 := hS.cell (kp + 1) hin
          have fk := hS.frozen kp
          have fk1 := hS.frozen (kp + 1)
          have hS2 := (hS.swap (kp + 1) kp hin (by omega)).drew
          rw [gx, gy, swl_comm _ (by omega), hsw] at hS2
          rw [gx] at ck
          rw [gy] at ck1
          obtain ⟨x1, x2, x3, hHx⟩ : ∃ u1 u2 u3, H x = (u1, u2, u3) := ⟨_, _, _, rfl⟩
          obtain ⟨y1, y2, y3, hHy⟩ : ∃ u1 u2 u3, H y = (u1, u2, u3) := ⟨_, _, _, rfl⟩
          rw [hHx] at ck
          rw [hHy] at ck1
          rw [hHx, hHy] at hS2
          simp only [hdr] at ck ck1 hS2
          obtain ⟨u, cu⟩ := hS.behind (kp + 1) kp (by omega) (.slice x1 x2 x3)
          have HS5 := Aside0.mk hS2
          have HK2 : Aside0 (a + c = kp) := ⟨by have := HK.out; omega⟩
          have HC2 : Aside0 (c ≤ X.length) := ⟨by omega⟩
          have p1 : (0 ≤ (kp : Int) + 1) = True := eq_true (by omega)
          have p2 : ((kp : Int) + 1 < (n : Int)) = True := eq_true (by omega)
          have p3 : (0 ≤ (kp : Int)) = True := eq_true (by omega)
          have p4 : ((kp : Int) < (n : Int)) = True := eq_true (by omega)
          have p5 : (kp + 1 < n) = True := eq_true (by omega)
          have p6 : (kp < n) = True := eq_true (by omega)
          have p7 : IntKind.i64.wrap (kp : Int) = (kp : Int) := wrap_nat (by omega)
          clear hS2 hin gx gy hsw hn2 hS hd hdr2 hl1 HS hHx hHy HK HDX hdc
          go_wp2_with fail
          go_big_region_o
          clear ck ck1 fk fk1 cu
          generalize ((wr.setCell ⟨g, kp + 1, none⟩ (.slice x1 x2 x3)).setCell ⟨g, kp, none⟩ (.slice y1 y2 y3)).drew = w5 at HS5 ⊢
          go_wp2
          go_roundw
          case rel => exact ⟨kp, c, by first | rfl | go_num, HK2, HC2, by omega, by omega, HS5⟩
          case measure => simp [intOf]
        · have q4 : decide ((k : Int) > (i : Int)) = false := decide_eq_false (by omega)
          have q5 : decide ((i : Int) < (k : Int)) = false := decide_eq_false (by omega)
          have hct : d = t := by have h1 := HK.out; have h2 := HT.out; omega
          have HE : Aside0 (SR w0 g H (P ++ (X.take t ++ y :: X.drop t) ++ Q) wr) := ⟨by have := HS.out; rw [hct] at this; simpa using this⟩
          clear HS hct HK
          go_wp2
          refine bodyPost_ret (results_none rfl _ _ _) rfl ?_
          exact ⟨rfl, _, HM.out, HE.out⟩
end Go.Proofs.Ythpoeljnmdjjiaa.Srt
