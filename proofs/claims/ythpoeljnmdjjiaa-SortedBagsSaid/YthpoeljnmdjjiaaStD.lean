/-
  Sorting, by hand: slices.symMergeCmpFunc with one element on the left.
-/
import Derived.Test.YthpoeljnmdjjiaaStP
namespace Go.Proofs.Ythpoeljnmdjjiaa.Srt
open Go.RowKit Go.Proofs.YthpoeljnmdjjiaaW.PrintWords Go.Proofs.YthpoeljnmdjjiaaW.PrintLast Go.Proofs.YthpoeljnmdjjiaaW.PrintMore
set_option linter.unusedVariables false
set_option linter.unusedSimpArgs false
variable {cf : Nat → Nat → Int}

theorem getD_Y (P : List Nat) (x : Nat) (Y Q : List Nat) (a c : Nat) (ha : P.length = a) (hc : c < Y.length) : (P ++ [x] ++ Y ++ Q).getD (a + 1 + c) 0 = Y.getD c 0 := by
  have l1 : (P ++ [x]).length = a + 1 := by rw [List.length_append, ha]; rfl
  rw [List.getD_eq_getElem?_getD, List.getD_eq_getElem?_getD, List.getElem?_append_left (by rw [List.length_append, l1]; omega), List.getElem?_append_right (by omega), l1, Nat.add_sub_cancel_left]
theorem srd_at {Y : List Nat} (hs : Srd cf Y) {c : Nat} (hc : c < Y.length) : (∀ d, d < c → Ah cf (Y.getD d 0) (Y.getD c 0)) ∧ (∀ d, c < d → d < Y.length → Ah cf (Y.getD c 0) (Y.getD d 0)):= by
  have g : ∀ i, (hi : i < Y.length) → Y.getD i 0 = Y[i] := fun i hi => by rw [List.getD_eq_getElem?_getD, List.getElem?_eq_getElem hi]; rfl
  refine ⟨fun d hd => ?_, fun d hd hdl => ?_⟩
  · rw [g d (by omega), g c hc]; exact List.pairwise_iff_getElem.1 hs d c (by omega) hc hd
  · rw [g d hdl, g c hc]; exact List.pairwise_iff_getElem.1 hs c d hc hdl hd

/-- One element put into a row that is in order. -/
theorem mrg_one {x : Nat} {Y : List Nat} (hs : Srd cf Y) (t : Nat) (ht : t ≤ Y.length) (h1 : ∀ c, c < Y.length → c < t → Ah cf (Y.getD c 0) x) (h2 : ∀ c, c < Y.length → t ≤ c → Ah cf x (Y.getD c 0)) : Mrg cf [x] Y (Y.take t ++ x :: Y.drop t) := by
  have g : ∀ i, (hi : i < Y.length) → Y.getD i 0 = Y[i] := fun i hi => by rw [List.getD_eq_getElem?_getD, List.getElem?_eq_getElem hi]; rfl
  have ha : ∀ y ∈ Y.take t, Ah cf y x := fun y hy => by
    obtain ⟨i, hi, e⟩ := List.mem_iff_getElem.1 hy
    rw [List.length_take] at hi
    rw [List.getElem_take] at e
    have := h1 i (by omega) (by omega)
    rw [g i (by omega), e] at this
    exact this
  have hb : ∀ y ∈ Y.drop t, Ah cf x y := fun y hy => by
    obtain ⟨i, hi, e⟩ := List.mem_iff_getElem.1 hy
    rw [List.length_drop] at hi
    rw [List.getElem_drop] at e
    have := h2 (t + i) (by omega) (by omega)
    rw [g (t + i) (by omega), e] at this
    exact this
  have hp : Srd cf (Y.take t ++ Y.drop t) := by rw [List.take_append_drop]; exact hs
  obtain ⟨p1, p2, p3⟩ := List.pairwise_append.1 hp
  refine ⟨?_, List.pairwise_append.2 ⟨p1, List.pairwise_cons.2 ⟨hb, p2⟩, fun y hy z hz => ?_⟩⟩
  · have := (List.perm_middle (a := x) (l₁ := Y.take t) (l₂ := Y.drop t))
    rw [List.take_append_drop] at this
    exact this
  · rcases List.mem_cons.1 hz with rfl | hz
    · exact ha y hy
    · exact p3 y hy z hz

set_option maxHeartbeats 1000000 in
set_option maxRecDepth 100000 in
theorem symMerge_left (C : Cf cf) (H : Nat → Hd) (w0 : World) (g cap : Nat) (f : Nat) (cb : Array Value) (ef : ∀ args w, (callFunc f args).run Try.prog w = .ok (.enter f args) w) (hcmp : CmpOK w0 g H f cb cf)
    (P : List Nat) (x : Nat) (Y Q : List Nat) (n a m b : Nat) (w : World) (hn : (P ++ [x] ++ Y ++ Q).length = n) (hl : n ≤ 1000000) (ha : a = P.length) (hm : m = P.length + 1) (hb : b = P.length + 1 + Y.length) (hY : 0 < Y.length) (hs : Srd cf Y) (hx : ∀ y ∈ Y, x < y)
    (h : SR w0 g H (P ++ [x] ++ Y ++ Q) w) :
    Calls Try.prog 60 #[.slice (some ⟨g, 0, none⟩) n cap, .int .i64 a, .int .i64 m, .int .i64 b, .func (.func f) #[] cb] w fun e w' => e = .returned (.tuple #[]) ∧ ∃ Z, Mrg cf [x] Y Z ∧ SR w0 g H (P ++ Z ++ Q) w' := by
  have hlen : P.length + 1 + Y.length + Q.length = n := by rw [← hn]; simp only [List.length_append, List.length_singleton]
  have hma : m = a + 1 := by omega
  have hbn : a + 1 < b ∧ b ≤ n := by omega
  have HPL : Aside0 (P.length = a) := ⟨ha.symm⟩
  have HBL : Aside0 (a + 1 + Y.length = b) := ⟨by omega⟩
  have H0 := Aside0.mk h
  have HCMP := Aside0.mk hcmp
  have mixed := follows_mixed
  have q1 : ((a : Int) + 1 - (a : Int) == 1) = true := by rw [beq_iff_eq]; omega
  clear h hn hcmp hlen hb
  subst hma
  clear hm ha
  have HI0 : Aside0 (∀ c, c < Y.length → a + 1 + c < a + 1 → Ah cf (Y.getD c 0) x) := ⟨fun c _ h => by omega⟩
  have HJ0 : Aside0 (∀ c, c < Y.length → b ≤ a + 1 + c → Ah cf x (Y.getD c 0)) := ⟨fun c hc h => by have := HBL.out; omega⟩
  go_enter Try.func60, Try.ntmps60
  go_wp2
  go_loopw [10, 11] (fun v10 v11 wr => ∃ (i j : Nat), v10 = .int .i64 i ∧ v11 = .int .i64 j ∧ a + 1 ≤ i ∧ i ≤ j ∧ j ≤ b ∧ Aside0 (SR w0 g H (P ++ [x] ++ Y ++ Q) wr) ∧ Aside0 (∀ c, c < Y.length → a + 1 + c < i → Ah cf (Y.getD c 0) x) ∧ Aside0 (∀ c, c < Y.length → j ≤ a + 1 + c → Ah cf x (Y.getD c 0))) (fun v10 v11 _ => (intOf v11).toNat - (intOf v10).toNat)
  case atStart => exact ⟨a + 1, b, rfl, rfl, Nat.le_refl _, by omega, Nat.le_refl _, H0, HI0, HJ0⟩
  case round =>
    clear H0 HI0 HJ0
    obtain ⟨i, j, rfl, rfl, hai, hij, hjb, HS, HI, HJ⟩ := hrel
    by_cases hlt : i < j
    · have q2 : decide ((i : Int) < (j : Int)) = true := decide_eq_true (by omega)
      have q3 : decide (i < j) = true := decide_eq_true hlt
      obtain ⟨h, hh⟩ : ∃ h : Nat, ((i : Int) + (j : Int)) / 2 = (h : Int) := ⟨(i + j) / 2, by omega⟩
      have hih : i ≤ h ∧ h < j := by omega
      obtain ⟨c, hc⟩ : ∃ c, h = a + 1 + c := ⟨h - (a + 1), by omega⟩
      have hcY : c < Y.length := by have := HBL.out; omega
      have gy : (P ++ [x] ++ Y ++ Q).getD h 0 = Y.getD c 0 := by rw [hc]; exact getD_Y P x Y Q a c HPL.out hcY
      have gx : (P ++ [x] ++ Y ++ Q).getD a 0 = x := by
        have e : P ++ [x] ++ Y ++ Q = P ++ x :: (Y ++ Q) := by simp
        rw [e, ← HPL.out]; exact getD_mid _ _ _
      have hyx : x < Y.getD c 0 := hx _ (by rw [List.getD_eq_getElem?_getD, List.getElem?_eq_getElem hcY]; exact List.getElem_mem _)
      have hlen2 : h < (P ++ [x] ++ Y ++ Q).length ∧ a < (P ++ [x] ++ Y ++ Q).length := by
        have e1 := HPL.out
        simp only [List.length_append, List.length_singleton]
        omega
      have hYs := srd_at hs hcY
      obtain ⟨y, hyc⟩ : ∃ y, Y.getD c 0 = y := ⟨_, rfl⟩
      have HYC := Aside0.mk hyc
      rw [hyc] at gy hyx hYs
      clear hyc
      obtain ⟨x1, x2, x3, hHx⟩ : ∃ a b c, H x = (a, b, c) := ⟨_, _, _, rfl⟩
      obtain ⟨y1, y2, y3, hHy⟩ : ∃ a b c, H y = (a, b, c) := ⟨_, _, _, rfl⟩
      have hfacts : ∀ w1, Below wr.heap.size wr w1 → SR w0 g H (P ++ [x] ++ Y ++ Q) w1 ∧ w1.cell? ⟨g, h, none⟩ = some (.slice y1 y2 y3) ∧ w1.cell? ⟨g, a, none⟩ = some (.slice x1 x2 x3) := fun w1 hb => by
        have h1 := HS.out.later hb
        have c1 := h1.cell h hlen2.1
        have c2 := h1.cell a hlen2.2
        rw [gy, hHy] at c1
        rw [gx, hHx] at c2
        exact ⟨h1, c1, c2⟩
      have HF := Aside0.mk hfacts
      have HC : Aside0 (∀ w1, Below wr.heap.size wr w1 → Calls Try.prog f (#[.slice y1 y2 y3, .slice x1 x2 x3] ++ cb) w1 fun e w' => e = .returned (.int .i64 (cf y x)) ∧ Below w1.heap.size w1 w') := ⟨fun w1 hb => by
        have h1 := (hfacts w1 hb).1
        have := HCMP.out y x w1 h1.below h1.keep
        simpa only [hHx, hHy, hdr] using this⟩
      have p1 : (0 ≤ (h : Int)) = True := eq_true (by omega)
      have p2 : ((h : Int) < (n : Int)) = True := eq_true (by omega)
      have p3 : (0 ≤ (a : Int)) = True := eq_true (by omega)
      have p4 : ((a : Int) < (n : Int)) = True := eq_true (by omega)
      have p5 : (h < n) = True := eq_true (by omega)
      have p6 : (a < n) = True := eq_true (by omega)
      have HYS := Aside0.mk hYs
      have Hc := Aside0.mk hc
      have Hyx := Aside0.mk hyx
      have HD := Aside0.mk (below_drew (Below.refl wr.heap.size wr))
      clear gy gx hlen2 hYs hfacts HS hc hyx hcY
      go_upto_region 5 with (fail)
      clear hh
      refine start_ (n := 11) (S := fun w' => (w'.cell? ⟨g, h, none⟩ = some (.slice y1 y2 y3) ∧ w'.cell? ⟨g, a, none⟩ = some (.slice x1 x2 x3))) (ds := []) #[false, false, false, false, false, false, false, false, false, false, false] (by kernel_rfl) rfl rfl ((HF.out wr.drew HD.out).2) (fun hHeld => ?_)
      refine pure_ (i := 0) (N := some 40) (v := ?_) (a' := ?_) #[true, false, false, false, false, false, false, false, false, false, false] rfl rfl (by kernel_rfl) (fun _ _ _ h => h) (Or.inl ⟨by rfl, ?_⟩) ?_ ?_
      rotate_left
      · intro w'
        go_simp
        with_reducible rfl
      rotate_left
      · simp only [Act.put, List.setIfInBounds_toArray, List.set_cons_zero, List.set_cons_succ]
        rfl
      refine pure_ (i := 1) (N := some 41) (v := ?_) (a' := ?_) #[true, true, false, false, false, false, false, false, false, false, false] rfl rfl (by kernel_rfl) (fun _ _ _ h => h) (Or.inl ⟨by rfl, ?_⟩) ?_ ?_
      rotate_left
      · intro w'
        go_simp
        with_reducible rfl
      rotate_left
      · simp only [Act.put, List.setIfInBounds_toArray, List.set_cons_zero, List.set_cons_succ]
        rfl
      refine pure_ (i := 2) (N := some 42) (v := ?_) (a' := ?_) #[true, true, true, false, false, false, false, false, false, false, false] rfl rfl (by kernel_rfl) (fun _ _ _ h => h) (Or.inl ⟨by rfl, ?_⟩) ?_ ?_
      rotate_left
      · intro w'
        go_simp
        with_reducible rfl
      rotate_left
      · simp only [Act.put, List.setIfInBounds_toArray, List.set_cons_zero, List.set_cons_succ]
        rfl
      refine pure_ (i := 3) (N := some 43) (v := ?_) (a' := ?_) #[true, true, true, true, false, false, false, false, false, false, false] rfl rfl (by kernel_rfl) (fun _ _ _ h => h) (Or.inl ⟨by rfl, ?_⟩) ?_ ?_
      rotate_left
      · intro w'
        go_simp
        with_reducible rfl
      rotate_left
      · simp only [Act.put, List.setIfInBounds_toArray, List.set_cons_zero, List.set_cons_succ]
        rfl
      refine take_ (i := 4) (N := some 44) (v := ?_) (a' := ?_) #[true, true, true, true, true, false, false, false, false, false, false] rfl rfl (by kernel_rfl) (fun _ _ _ h => h) (Or.inl ⟨by rfl, ?_⟩) hHeld ?_ ?_
      rotate_left
      · rintro w' ⟨s0, s1⟩
        go_simp
        with_reducible rfl
      rotate_left
      · simp only [Act.put, List.setIfInBounds_toArray, List.set_cons_zero, List.set_cons_succ]
        rfl
      refine pure_ (i := 5) (N := some 45) (v := ?_) (a' := ?_) #[true, true, true, true, true, true, false, false, false, false, false] rfl rfl (by kernel_rfl) (fun _ _ _ h => h) (Or.inl ⟨by rfl, ?_⟩) ?_ ?_
      rotate_left
      · intro w'
        go_simp
        with_reducible rfl
      rotate_left
      · simp only [Act.put, List.setIfInBounds_toArray, List.set_cons_zero, List.set_cons_succ]
        rfl
      refine pure_ (i := 6) (N := some 46) (v := ?_) (a' := ?_) #[true, true, true, true, true, true, true, false, false, false, false] rfl rfl (by kernel_rfl) (fun _ _ _ h => h) (Or.inl ⟨by rfl, ?_⟩) ?_ ?_
      rotate_left
      · intro w'
        go_simp
        with_reducible rfl
      rotate_left
      · simp only [Act.put, List.setIfInBounds_toArray, List.set_cons_zero, List.set_cons_succ]
        rfl
      refine pure_ (i := 7) (N := some 47) (v := ?_) (a' := ?_) #[true, true, true, true, true, true, true, true, false, false, false] rfl rfl (by kernel_rfl) (fun _ _ _ h => h) (Or.inl ⟨by rfl, ?_⟩) ?_ ?_
      rotate_left
      · intro w'
        go_simp
        with_reducible rfl
      rotate_left
      · simp only [Act.put, List.setIfInBounds_toArray, List.set_cons_zero, List.set_cons_succ]
        rfl
      refine take_ (i := 8) (N := some 48) (v := ?_) (a' := ?_) #[true, true, true, true, true, true, true, true, true, false, false] rfl rfl (by kernel_rfl) (fun _ _ _ h => h) (Or.inl ⟨by rfl, ?_⟩) hHeld ?_ ?_
      rotate_left
      · rintro w' ⟨s0, s1⟩
        go_simp
        with_reducible rfl
      rotate_left
      · simp only [Act.put, List.setIfInBounds_toArray, List.set_cons_zero, List.set_cons_succ]
        rfl
      refine one_ (i := 9) (N := some 49) #[true, true, true, true, true, true, true, true, true, true, false] rfl rfl (by kernel_rfl) (by decide) (fun K hK => ?_)
      refine call_ f (#[.slice y1 y2 y3, .slice x1 x2 x3] ++ cb) (by rfl) rfl ?hrun ?_
      case hrun => have he := ef; unfold execOp; simp [resolve, Deferred.ofValue, invoke, Act.eval, he]
      (with_reducible refine (HC.out _ HD.out).mono ?_)
      rintro e w4 ⟨rfl, hb4⟩
      have HB4 := Aside0.mk hb4
      clear hb4
      refine ⟨_, rfl, ?_⟩
      refine hK.out _ _ (HF.out w4 (HD.out.trans (HB4.out.mono (Nat.le_refl _)))).2 (fun hHeld => ?_)
      clear hK K
      refine norm_ (a' := ?_) ?_ ?_
      rotate_left
      · show Act.put _ (some 49) _ = _
        simp only [Act.put, List.setIfInBounds_toArray, List.set_cons_zero, List.set_cons_succ]
        rfl
      refine pure_ (i := 10) (N := some 50) (v := ?_) (a' := ?_) #[true, true, true, true, true, true, true, true, true, true, true] rfl rfl (by kernel_rfl) (fun _ _ _ h => h) (Or.inl ⟨by rfl, ?_⟩) ?_ ?_
      rotate_left
      · intro w'
        go_simp
        with_reducible rfl
      rotate_left
      · simp only [Act.put, List.setIfInBounds_toArray, List.set_cons_zero, List.set_cons_succ]
        rfl
      refine done_ (by kernel_rfl) ?_
      have HD4 : Aside0 (Below wr.heap.size wr w4) := ⟨HD.out.trans (HB4.out.mono (Nat.le_refl _))⟩
      have HS4 := Aside0.mk (HF.out w4 HD4.out).1
      clear HB4 HD HC hHeld HF HD4
      by_cases hlt2 : cf y x < 0
      · have q5 : decide (cf y x < 0) = true := decide_eq_true hlt2
        have HI2 : Aside0 (∀ c, c < Y.length → a + 1 + c < h + 1 → Ah cf (Y.getD c 0) x) := ⟨fun d hd hlt => by
          have hyx := (ahead_right C Hyx.out).1 (decide_eq_true hlt2)
          rcases Nat.lt_or_ge d c with h1 | h1
          · exact (HYS.out.1 d h1).trans C hyx
          · have : d = c := by have := Hc.out; omega
            rw [this, HYC.out]; exact hyx⟩
        rw [q5]
        have q6 : (cf y x < 0) = True := eq_true hlt2
        clear hlt2 HI
        go_wp2
        go_roundw
        case rel => exact ⟨h + 1, j, by first | rfl | go_num, rfl, by omega, by omega, hjb, HS4, HI2, HJ⟩
        case measure => simp [intOf]; omega
      · have q5 : decide (cf y x < 0) = false := decide_eq_false hlt2
        have HJ2 : Aside0 (∀ c, c < Y.length → h ≤ a + 1 + c → Ah cf x (Y.getD c 0)) := ⟨fun d hd hle => by
          have hxy := (not_ahead_right C Hyx.out).1 (decide_eq_false hlt2)
          rcases Nat.lt_or_ge c d with h1 | h1
          · exact hxy.trans C (HYS.out.2 d h1 hd)
          · have : d = c := by have := Hc.out; omega
            rw [this, HYC.out]; exact hxy⟩
        rw [q5]
        have q6 : (cf y x < 0) = False := eq_false hlt2
        clear hlt2 HJ
        go_wp2
        go_roundw
        case rel => exact ⟨i, h, rfl, by first | rfl | go_num, hai, by omega, by omega, HS4, HI, HJ2⟩
        case measure => simp [intOf]; omega
    · have q2 : decide ((i : Int) < (j : Int)) = false := decide_eq_false (by omega)
      have q3 : decide (i < j) = false := decide_eq_false hlt
      obtain rfl : i = j := by omega
      obtain ⟨t, ht⟩ : ∃ t, a + 1 + t = i := ⟨i - (a + 1), by omega⟩
      have htY : t ≤ Y.length := by have := HBL.out; omega
      have HM : Aside0 (Mrg cf [x] Y (Y.take t ++ x :: Y.drop t)) := ⟨mrg_one hs t htY (fun c h1 h2 => HI.out c h1 (by omega)) (fun c h1 h2 => HJ.out c h1 (by omega))⟩
      have HT := Aside0.mk ht
      have HTY := Aside0.mk htY
      have HS0 : Aside0 (SR w0 g H (P ++ Y.take 0 ++ x :: (Y.drop 0 ++ Q)) wr) := ⟨by have := HS.out; simpa using this⟩
      have hA0 : Aside0 (a + 0 = a) := ⟨rfl⟩
      clear HI HJ ht htY HS
      go_wp2
      go_loopw [13] (fun v13 wr => ∃ (k c : Nat), v13 = .int .i64 k ∧ Aside0 (a + c = k) ∧ a ≤ k ∧ k + 1 ≤ i ∧ Aside0 (SR w0 g H (P ++ Y.take c ++ x :: (Y.drop c ++ Q)) wr)) (fun v13 _ => i - (intOf v13).toNat)
      case atStart => exact ⟨a, 0, rfl, hA0, Nat.le_refl _, by omega, HS0⟩
      case round =>
        clear HS0 hA0 q2 q3
        obtain ⟨k, c, rfl, HK, hak, hki, HS⟩ := hrel
        by_cases hlt3 : k + 1 < i
        · have q4 : decide ((k : Int) < (i : Int) - 1) = true := decide_eq_true (by omega)
          have q5 : ((k : Int) < (i : Int) - 1) = True := eq_true (by omega)
          have hcY : c < Y.length := by have h1 := HK.out; have h2 := HT.out; have h3 := HTY.out; omega
          have hl1 : (P ++ Y.take c).length = k := by rw [List.length_append, List.length_take, HPL.out]; have := HK.out; omega
          have hd : Y.drop c = Y[c] :: Y.drop (c + 1) := List.drop_eq_getElem_cons hcY
          have hsw := swl_mid (P ++ Y.take c) x [] Y[c] (Y.drop (c + 1) ++ Q)
          have hn2 : P ++ Y.take c ++ Y[c] :: ([] ++ x :: (Y.drop (c + 1) ++ Q)) = P ++ Y.take (c + 1) ++ x :: (Y.drop (c + 1) ++ Q) := by rw [List.take_succ_eq_append_getElem hcY]; simp only [List.append_assoc, List.cons_append, List.nil_append]
          have hS := HS.out
          rw [hd] at hS
          have hS : SR w0 g H (P ++ Y.take c ++ x :: ([] ++ Y[c] :: (Y.drop (c + 1) ++ Q))) wr := hS
          rw [hl1, hn2, List.length_nil, Nat.add_zero] at hsw
          have gx : (P ++ Y.take c ++ x :: ([] ++ Y[c] :: (Y.drop (c + 1) ++ Q))).getD k 0 = x := by rw [← hl1]; exact getD_mid _ _ _
          have gy : (P ++ Y.take c ++ x :: ([] ++ Y[c] :: (Y.drop (c + 1) ++ Q))).getD (k + 1) 0 = Y[c] := by
            have e : P ++ Y.take c ++ x :: ([] ++ Y[c] :: (Y.drop (c + 1) ++ Q)) = (P ++ Y.take c ++ [x]) ++ Y[c] :: (Y.drop (c + 1) ++ Q) := by simp only [List.append_assoc, List.cons_append, List.nil_append]
            have l : (P ++ Y.take c ++ [x]).length = k + 1 := by rw [List.length_append, hl1]; rfl
            rw [e, ← l]; exact getD_mid _ _ _
          have hin : k + 1 < (P ++ Y.take c ++ x :: ([] ++ Y[c] :: (Y.drop (c + 1) ++ Q))).length := by rw [List.length_append, hl1]; simp
          have ck := hS.cell k (by omega)
          have ck1 := hS.cell (k + 1) hin
          have fk := hS.frozen k
          have fk1 := hS.frozen (k + 1)
          have hS2 := (hS.swap k (k + 1) (by omega) hin).drew
          rw [gx, gy, hsw] at hS2
          rw [gx] at ck
          rw [gy] at ck1
          obtain ⟨x1, x2, x3, hHx⟩ : ∃ a b c, H x = (a, b, c) := ⟨_, _, _, rfl⟩
          obtain ⟨y1, y2, y3, hHy⟩ : ∃ u1 u2 u3, H Y[c] = (u1, u2, u3) := ⟨_, _, _, rfl⟩
          rw [hHx] at ck
          rw [hHy] at ck1
          rw [hHx, hHy] at hS2
          simp only [hdr] at ck ck1 hS2
          obtain ⟨u, cu⟩ := hS.behind k (k + 1) hin (.slice y1 y2 y3)
          have HS5 := Aside0.mk hS2
          have HK2 : Aside0 (a + (c + 1) = k + 1) := ⟨by have := HK.out; omega⟩
          have p1 : (0 ≤ (k : Int) + 1) = True := eq_true (by omega)
          have p2 : ((k : Int) + 1 < (n : Int)) = True := eq_true (by omega)
          have p3 : (0 ≤ (k : Int)) = True := eq_true (by omega)
          have p4 : ((k : Int) < (n : Int)) = True := eq_true (by omega)
          have p5 : (k + 1 < n) = True := eq_true (by omega)
          have p6 : (k < n) = True := eq_true (by omega)
          clear hS2 hin gx gy hsw hn2 hS hd hl1 HS hHx hHy HK
          go_wp2_with fail
          go_big_region_o
          clear ck ck1 fk fk1 cu
          generalize ((wr.setCell ⟨g, k, none⟩ (.slice y1 y2 y3)).setCell ⟨g, k + 1, none⟩ (.slice x1 x2 x3)).drew = w5 at HS5 ⊢
          go_wp2
          go_roundw
          case rel => exact ⟨k + 1, c + 1, by first | rfl | go_num, HK2, by omega, by omega, HS5⟩
          case measure => simp [intOf]; omega
        · have q4 : decide ((k : Int) < (i : Int) - 1) = false := decide_eq_false (by omega)
          have q5 : ((k : Int) < (i : Int) - 1) = False := eq_false (by omega)
          have hct : c = t := by have h1 := HK.out; have h2 := HT.out; omega
          have HE : Aside0 (SR w0 g H (P ++ (Y.take t ++ x :: Y.drop t) ++ Q) wr) := ⟨by have := HS.out; rw [hct] at this; simpa using this⟩
          clear HS hct HK
          go_wp2
          refine bodyPost_ret (results_none rfl _ _ _) rfl ?_
          exact ⟨rfl, _, HM.out, HE.out⟩
end Go.Proofs.Ythpoeljnmdjjiaa.Srt
