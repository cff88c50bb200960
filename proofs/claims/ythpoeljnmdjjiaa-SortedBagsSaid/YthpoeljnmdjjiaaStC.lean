/-
  Sorting, by hand: slices.insertionSortCmpFunc.
-/
import Derived.Test.YthpoeljnmdjjiaaStB

namespace Go.Proofs.Ythpoeljnmdjjiaa.Srt
open Go.RowKit Go.Proofs.YthpoeljnmdjjiaaW.PrintWords Go.Proofs.YthpoeljnmdjjiaaW.PrintLast Go.Proofs.YthpoeljnmdjjiaaW.PrintMore
set_option linter.unusedVariables false
set_option linter.unusedSimpArgs false

/-- What is asked of a comparison, in any world of the sort. -/
def CmpOK (w0 : World) (g : Nat) (H : Nat → Hd) (f : Nat) (cb : Array Value) (cf : Nat → Nat → Int) : Prop :=
  ∀ (i j : Nat) (W : World), Below g w0 W → KeepBut w0 W g none → Calls Try.prog f (#[hdr (H i), hdr (H j)] ++ cb) W fun e w' => e = .returned (.int .i64 (cf i j)) ∧ Below W.heap.size W w'
theorem SR.later {w0 w w1 : World} {g : Nat} {H : Nat → Hd} {l : List Nat} (h : SR w0 g H l w) (hb : Below w.heap.size w w1) : SR w0 g H l w1 :=
  ⟨by obtain ⟨L0, T, hl, h0, hb2⟩ := h.blk; exact ⟨L0, T, hl, h0, blk_below hb2 hb⟩, h.below.trans (hb.mono (by have := h.lt; omega)), h.keep.trans (KeepBut.of_below hb g none) (.inl rfl)⟩
theorem SR.drewN {w0 w : World} {g : Nat} {H : Nat → Hd} {l : List Nat} (h : SR w0 g H l w) (m : Nat) : SR w0 g H l (w.drewN m) := ⟨h.blk, ⟨h.below.os, h.below.tape, h.below.output, h.below.size, h.below.block⟩, keep_drewN h.keep m⟩
theorem swl_comm (l : List Nat) {i j : Nat} (h : i ≠ j) : swl l i j = swl l j i := by unfold swl; rw [List.set_comm _ _ h]
theorem wrap_nat {j : Nat} (h : j ≤ 1000000) : IntKind.i64.wrap (j : Int) = (j : Int) := by rw [IntKind.wrap_i64]; omega
/-- An element put into a row from behind, over those that it is ahead of. -/
def insR (lt : Nat → Nat → Bool) (x : Nat) : List Nat → List Nat
  | [] => [x]
  | y :: t => if lt x y = true then y :: insR lt x t else x :: y :: t
def ins (lt : Nat → Nat → Bool) (S : List Nat) (x : Nat) : List Nat := (insR lt x S.reverse).reverse
theorem ins_nil (lt : Nat → Nat → Bool) (x : Nat) : ins lt [] x = [x] := rfl
theorem ins_go (lt : Nat → Nat → Bool) (S : List Nat) (y x : Nat) (h : lt x y = true) : ins lt (S ++ [y]) x = ins lt S x ++ [y] := by
  unfold ins; rw [List.reverse_append, List.reverse_singleton, List.singleton_append, insR, if_pos h, List.reverse_cons]
theorem ins_stop (lt : Nat → Nat → Bool) (S : List Nat) (y x : Nat) (h : lt x y = false) : ins lt (S ++ [y]) x = S ++ [y] ++ [x] := by
  unfold ins; rw [List.reverse_append, List.reverse_singleton, List.singleton_append, insR, if_neg (by simp [h])]; simp
def isort (lt : Nat → Nat → Bool) (S : List Nat) : List Nat → List Nat
  | [] => S
  | x :: t => isort lt (ins lt S x) t
theorem ins_len (lt : Nat → Nat → Bool) (S : List Nat) (x : Nat) : (ins lt S x).length = S.length + 1 := by
  have h : ∀ R : List Nat, (insR lt x R).length = R.length + 1 := by
    intro R
    induction R with
    | nil => rfl
    | cons y t ih => unfold insR; split <;> simp [ih]
  unfold ins; rw [List.length_reverse, h, List.length_reverse]
def ltc (cf : Nat → Nat → Int) (i j : Nat) : Bool := decide (cf i j < 0)

set_option maxHeartbeats 4000000 in
set_option maxRecDepth 100000 in
theorem insertion_calls (H : Nat → Hd) (w0 : World) (g cap : Nat) (f : Nat) (cb : Array Value) (cf : Nat → Nat → Int) (ef : ∀ args w, (callFunc f args).run Try.prog w = .ok (.enter f args) w) (hcmp : CmpOK w0 g H f cb cf)
    (P X Q : List Nat) (n a b : Nat) (w : World) (hn : (P ++ X ++ Q).length = n) (hl : n ≤ 1000000) (ha : a = P.length) (hb : b = P.length + X.length) (hX : 0 < X.length) (h : SR w0 g H (P ++ X ++ Q) w) :
    Calls Try.prog 59 #[.slice (some ⟨g, 0, none⟩) n cap, .int .i64 a, .int .i64 b, .func (.func f) #[] cb] w fun e w' => e = .returned (.tuple #[]) ∧ SR w0 g H (P ++ isort (ltc cf) [] X ++ Q) w' := by
  have hlen : P.length + X.length + Q.length = n := by rw [← hn]; simp only [List.length_append]
  have mixed := follows_mixed
  have HCMP := Aside0.mk hcmp
  have HPL : Aside0 (P.length = a) := ⟨ha.symm⟩
  obtain ⟨x0, X1, hX1⟩ : ∃ x t, X = x :: t := by
    cases X with
    | nil => cases hX
    | cons x t => exact ⟨x, t, rfl⟩
  have HT : Aside0 (isort (ltc cf) [x0] X1 = isort (ltc cf) [] X) := ⟨by rw [hX1]; rfl⟩
  have H0 : Aside0 (SR w0 g H (P ++ [x0] ++ X1 ++ Q) w) := ⟨by rw [hX1] at h; simpa using h⟩
  have hbn : a + 1 ≤ b ∧ b ≤ n := by omega
  have HBL : Aside0 (a + 1 + X1.length = b ∧ b + Q.length = n) := ⟨by rw [hX1, List.length_cons] at hb; rw [hX1, List.length_cons] at hlen; omega⟩
  generalize isort (ltc cf) [] X = T at *
  clear h hn hX hX1 ha hb hlen hcmp
  go_enter Try.func59, Try.ntmps59
  go_wp2
  go_loopw [8] (fun v8 wr => ∃ (S R : List Nat) (i : Nat), v8 = .int .i64 i ∧ a + 1 ≤ i ∧ i ≤ b ∧ Aside0 (a + S.length = i ∧ i + R.length = b) ∧ Aside0 (SR w0 g H (P ++ S ++ R ++ Q) wr) ∧ Aside0 (isort (ltc cf) S R = T)) (fun v8 _ => b - (intOf v8).toNat)
  case atStart => exact ⟨[x0], X1, a + 1, by first | rfl | go_num | (congr 1; omega), Nat.le_refl _, hbn.1, ⟨rfl, HBL.out.1⟩, H0, HT⟩
  case round =>
    clear H0 HT
    obtain ⟨S, R, i, rfl, hai, hib, HL, HS, HT⟩ := hrel
    by_cases hlt : i < b
    · have q1 : decide ((i : Int) < (b : Int)) = true := decide_eq_true (by omega)
      have q2 : decide (i < b) = true := decide_eq_true hlt
      obtain ⟨x, R', hR⟩ : ∃ x t, R = x :: t := by
        have := HL.out.2
        cases R with
        | nil => simp at this; omega
        | cons x t => exact ⟨x, t, rfl⟩
      have HT2 : Aside0 (isort (ltc cf) (ins (ltc cf) S x) R' = T) := ⟨by rw [← HT.out, hR]; rfl⟩
      have HL2 : Aside0 (a + S.length = i ∧ i + 1 + R'.length = b) := ⟨HL.out.1, by have := HL.out.2; rw [hR, List.length_cons] at this; omega⟩
      have HS2 : Aside0 (SR w0 g H (P ++ S ++ [x] ++ [] ++ (R' ++ Q)) wr) := ⟨by have := HS.out; rw [hR] at this; simpa using this⟩
      clear HT HL HS hR
      go_upto_region 4 with (fail)
      obtain ⟨wq, hwq⟩ : ∃ wq : World, wq = wr := ⟨wr, rfl⟩
      subst hwq
      have HI0 : Aside0 (ins (ltc cf) S x ++ [] = ins (ltc cf) S x) := ⟨List.append_nil _⟩
      have hSi : Aside0 (a + S.length = i ∧ i + ([] : List Nat).length = i) := ⟨HL2.out.1, rfl⟩
      go_loopw [9] (fun v9 wr => ∃ (S1 S2 : List Nat) (j : Nat), v9 = .int .i64 j ∧ a ≤ j ∧ j ≤ i ∧ Aside0 (a + S1.length = j ∧ j + S2.length = i) ∧ Aside0 (SR w0 g H (P ++ S1 ++ [x] ++ S2 ++ (R' ++ Q)) wr) ∧ Aside0 (ins (ltc cf) S1 x ++ S2 = ins (ltc cf) S x)) (fun v9 _ => (intOf v9).toNat)
      case atStart => exact ⟨S, [], i, rfl, by omega, Nat.le_refl _, hSi, HS2, HI0⟩
      case round =>
        clear HI0 hSi HS2
        obtain ⟨S1, S2, j, rfl, haj, hji, HJ, HS, HI⟩ := hrel
        rcases Nat.eq_or_lt_of_le haj with hja | hja
        · subst hja
          have q3 : decide ((a : Int) > (a : Int)) = false := decide_eq_false (by omega)
          have q4 : decide ((a : Int) < (a : Int)) = false := decide_eq_false (by omega)
          have hS1 : S1 = [] := List.length_eq_zero_iff.1 (by have := HJ.out.1; omega)
          have HS3 : Aside0 (SR w0 g H (P ++ ins (ltc cf) S x ++ R' ++ Q) wr) := ⟨by have h1 := HS.out; have h2 := HI.out; rw [hS1] at h1 h2; rw [← h2, ins_nil]; simpa using h1⟩
          have HL3 : Aside0 (a + (ins (ltc cf) S x).length = i + 1 ∧ i + 1 + R'.length = b) := ⟨by rw [ins_len]; have := HL2.out.1; omega, HL2.out.2⟩
          clear HS HI HJ HL2 hS1
          go_upto_region 4 with (fail)
          go_quiet (fail)
          go_wp2
          go_roundw
          case rel => exact ⟨ins (ltc cf) S x, R', i + 1, by first | rfl | go_num, by omega, by omega, HL3, ⟨by first | exact HS3.out | exact HS3.out.drew | exact HS3.out.drewN _⟩, HT2⟩
          case measure => simp [intOf]; omega
        · obtain ⟨jp, rfl⟩ : ∃ jp, j = jp + 1 := ⟨j - 1, by omega⟩
          obtain ⟨S3, y, hS3⟩ : ∃ S3 y, S1 = S3 ++ [y] := by
            have hne : S1 ≠ [] := by intro e; have := HJ.out.1; rw [e, List.length_nil] at this; omega
            exact ⟨S1.dropLast, S1.getLast hne, (List.dropLast_concat_getLast hne).symm⟩
          have HJ2 : Aside0 (a + S3.length = jp ∧ jp + 1 + S2.length = i) := ⟨by have := HJ.out; rw [hS3, List.length_append, List.length_singleton] at this; omega⟩
          have HS4 : Aside0 (SR w0 g H (P ++ S3 ++ y :: ([] ++ x :: (S2 ++ (R' ++ Q)))) wr) := ⟨by have := HS.out; rw [hS3] at this; simpa using this⟩
          have hl1 : (P ++ S3).length = jp := by rw [List.length_append, HPL.out]; exact HJ2.out.1
          have hin : jp + 1 < (P ++ S3 ++ y :: ([] ++ x :: (S2 ++ (R' ++ Q)))).length := by rw [List.length_append, hl1]; simp
          have gy : (P ++ S3 ++ y :: ([] ++ x :: (S2 ++ (R' ++ Q)))).getD jp 0 = y := by rw [← hl1]; exact getD_mid _ _ _
          have gx : (P ++ S3 ++ y :: ([] ++ x :: (S2 ++ (R' ++ Q)))).getD (jp + 1) 0 = x := by
            have e : P ++ S3 ++ y :: ([] ++ x :: (S2 ++ (R' ++ Q))) = (P ++ S3 ++ [y]) ++ x :: (S2 ++ (R' ++ Q)) := by simp
            have l : (P ++ S3 ++ [y]).length = jp + 1 := by rw [List.length_append, hl1]; rfl
            rw [e, ← l]; exact getD_mid _ _ _
          have hsw : swl (P ++ S3 ++ y :: ([] ++ x :: (S2 ++ (R' ++ Q)))) jp (jp + 1) = P ++ S3 ++ x :: ([] ++ y :: (S2 ++ (R' ++ Q))) := by
            have := swl_mid (P ++ S3) y [] x (S2 ++ (R' ++ Q))
            rwa [hl1] at this
          obtain ⟨x1, x2, x3, hHx⟩ : ∃ a b c, H x = (a, b, c) := ⟨_, _, _, rfl⟩
          obtain ⟨y1, y2, y3, hHy⟩ : ∃ a b c, H y = (a, b, c) := ⟨_, _, _, rfl⟩
          have hfacts : ∀ w1, Below wr.heap.size wr w1 → SR w0 g H (P ++ S3 ++ y :: ([] ++ x :: (S2 ++ (R' ++ Q)))) w1 ∧ w1.cell? ⟨g, jp + 1, none⟩ = some (.slice x1 x2 x3) ∧ w1.cell? ⟨g, jp, none⟩ = some (.slice y1 y2 y3) := fun w1 hb => by
            have h1 := HS4.out.later hb
            have c1 := h1.cell (jp + 1) hin
            have c2 := h1.cell jp (by omega)
            rw [gx, hHx] at c1
            rw [gy, hHy] at c2
            exact ⟨h1, c1, c2⟩
          have HF := Aside0.mk hfacts
          have HC : Aside0 (∀ w1, Below wr.heap.size wr w1 → Calls Try.prog f (#[.slice x1 x2 x3, .slice y1 y2 y3] ++ cb) w1 fun e w' => e = .returned (.int .i64 (cf x y)) ∧ Below w1.heap.size w1 w') := ⟨fun w1 hb => by
            have h1 := (hfacts w1 hb).1
            have := HCMP.out x y w1 h1.below h1.keep
            simpa only [hHx, hHy, hdr] using this⟩
          have HSW : Aside0 (∀ w1, Below wr.heap.size wr w1 → SR w0 g H (P ++ S3 ++ [x] ++ (y :: S2) ++ (R' ++ Q)) ((w1.setCell ⟨g, jp + 1, none⟩ (.slice y1 y2 y3)).setCell ⟨g, jp, none⟩ (.slice x1 x2 x3)).drew) := ⟨fun w1 hb => by
            have h1 := ((hfacts w1 hb).1.swap (jp + 1) jp hin (by omega)).drew
            rw [gx, gy, hHx, hHy, swl_comm _ (by omega), hsw] at h1
            simpa [hdr] using h1⟩
          have q3 : decide ((jp : Int) + 1 > (a : Int)) = true := decide_eq_true (by omega)
          have q4 : decide ((a : Int) < (jp : Int) + 1) = true := decide_eq_true (by omega)
          have hjn : jp + 1 < n := by omega
          have p1 : (0 ≤ (jp : Int) + 1) = True := eq_true (by omega)
          have p2 : ((jp : Int) + 1 < (n : Int)) = True := eq_true (by omega)
          have p3 : (0 ≤ (jp : Int)) = True := eq_true (by omega)
          have p4 : ((jp : Int) < (n : Int)) = True := eq_true (by omega)
          have p7 : IntKind.i64.wrap (jp : Int) = (jp : Int) := wrap_nat (by omega)
          have p5 : (jp + 1 < n) = True := eq_true (by omega)
          have p6 : (jp < n) = True := eq_true (by omega)
          have HIN := Aside0.mk hin
          clear hl1 hin gy gx hsw hfacts HS4 HS HJ
          have HD := Aside0.mk (below_drew (Below.refl wr.heap.size wr))
          go_upto_region 4 with (fail)
          refine start_ (n := 17) (S := fun w' => (w'.cell? ⟨g, jp + 1, none⟩ = some (.slice x1 x2 x3) ∧ w'.cell? ⟨g, jp, none⟩ = some (.slice y1 y2 y3))) (ds := []) #[false, false, false, false, false, false, false, false, false, false, false, false, false, false, false, false, false] (by kernel_rfl) rfl rfl ((HF.out wr.drew HD.out).2) (fun hHeld => ?_)
          refine pure_ (i := 0) (N := some 18) (v := ?_) (a' := ?_) #[true, false, false, false, false, false, false, false, false, false, false, false, false, false, false, false, false] rfl rfl (by kernel_rfl) (fun _ _ _ h => h) (Or.inl ⟨by rfl, ?_⟩) ?_ ?_
          rotate_left
          · intro w'
            go_simp
            with_reducible rfl
          rotate_left
          · simp only [Act.put, List.setIfInBounds_toArray, List.set_cons_zero, List.set_cons_succ]
            rfl
          refine pure_ (i := 1) (N := some 19) (v := ?_) (a' := ?_) #[true, true, false, false, false, false, false, false, false, false, false, false, false, false, false, false, false] rfl rfl (by kernel_rfl) (fun _ _ _ h => h) (Or.inl ⟨by rfl, ?_⟩) ?_ ?_
          rotate_left
          · intro w'
            go_simp
            with_reducible rfl
          rotate_left
          · simp only [Act.put, List.setIfInBounds_toArray, List.set_cons_zero, List.set_cons_succ]
            rfl
          refine pure_ (i := 2) (N := some 20) (v := ?_) (a' := ?_) #[true, true, true, false, false, false, false, false, false, false, false, false, false, false, false, false, false] rfl rfl (by kernel_rfl) (fun _ _ _ h => h) (Or.inl ⟨by rfl, ?_⟩) ?_ ?_
          rotate_left
          · intro w'
            go_simp
            with_reducible rfl
          rotate_left
          · simp only [Act.put, List.setIfInBounds_toArray, List.set_cons_zero, List.set_cons_succ]
            rfl
          refine pure_ (i := 3) (N := some 21) (v := ?_) (a' := ?_) #[true, true, true, true, false, false, false, false, false, false, false, false, false, false, false, false, false] rfl rfl (by kernel_rfl) (fun _ _ _ h => h) (Or.inl ⟨by rfl, ?_⟩) ?_ ?_
          rotate_left
          · intro w'
            go_simp
            with_reducible rfl
          rotate_left
          · simp only [Act.put, List.setIfInBounds_toArray, List.set_cons_zero, List.set_cons_succ]
            rfl
          refine pure_ (i := 4) (N := some 22) (v := ?_) (a' := ?_) #[true, true, true, true, true, false, false, false, false, false, false, false, false, false, false, false, false] rfl rfl (by kernel_rfl) (fun _ _ _ h => h) (Or.inl ⟨by rfl, ?_⟩) ?_ ?_
          rotate_left
          · intro w'
            go_simp
            with_reducible rfl
          rotate_left
          · simp only [Act.put, List.setIfInBounds_toArray, List.set_cons_zero, List.set_cons_succ]
            rfl
          refine pure_ (i := 5) (N := some 23) (v := ?_) (a' := ?_) #[true, true, true, true, true, true, false, false, false, false, false, false, false, false, false, false, false] rfl rfl (by kernel_rfl) (fun _ _ _ h => h) (Or.inl ⟨by rfl, ?_⟩) ?_ ?_
          rotate_left
          · intro w'
            go_simp
            with_reducible rfl
          rotate_left
          · simp only [Act.put, List.setIfInBounds_toArray, List.set_cons_zero, List.set_cons_succ]
            rfl
          refine pure_ (i := 6) (N := some 24) (v := ?_) (a' := ?_) #[true, true, true, true, true, true, true, false, false, false, false, false, false, false, false, false, false] rfl rfl (by kernel_rfl) (fun _ _ _ h => h) (Or.inl ⟨by rfl, ?_⟩) ?_ ?_
          rotate_left
          · intro w'
            go_simp
            with_reducible rfl
          rotate_left
          · simp only [Act.put, List.setIfInBounds_toArray, List.set_cons_zero, List.set_cons_succ]
            rfl
          refine pure_ (i := 7) (N := some 25) (v := ?_) (a' := ?_) #[true, true, true, true, true, true, true, true, false, false, false, false, false, false, false, false, false] rfl rfl (by kernel_rfl) (fun _ _ _ h => h) (Or.inl ⟨by rfl, ?_⟩) ?_ ?_
          rotate_left
          · intro w'
            go_simp
            with_reducible rfl
          rotate_left
          · simp only [Act.put, List.setIfInBounds_toArray, List.set_cons_zero, List.set_cons_succ]
            rfl
          refine take_ (i := 8) (N := some 26) (v := ?_) (a' := ?_) #[true, true, true, true, true, true, true, true, true, false, false, false, false, false, false, false, false] rfl rfl (by kernel_rfl) (fun _ _ _ h => h) (Or.inl ⟨by rfl, ?_⟩) hHeld ?_ ?_
          rotate_left
          · rintro w' ⟨s0, s1⟩
            go_simp
            with_reducible rfl
          rotate_left
          · simp only [Act.put, List.setIfInBounds_toArray, List.set_cons_zero, List.set_cons_succ]
            rfl
          refine pure_ (i := 9) (N := some 27) (v := ?_) (a' := ?_) #[true, true, true, true, true, true, true, true, true, true, false, false, false, false, false, false, false] rfl rfl (by kernel_rfl) (fun _ _ _ h => h) (Or.inl ⟨by rfl, ?_⟩) ?_ ?_
          rotate_left
          · intro w'
            go_simp
            with_reducible rfl
          rotate_left
          · simp only [Act.put, List.setIfInBounds_toArray, List.set_cons_zero, List.set_cons_succ]
            rfl
          refine pure_ (i := 10) (N := some 28) (v := ?_) (a' := ?_) #[true, true, true, true, true, true, true, true, true, true, true, false, false, false, false, false, false] rfl rfl (by kernel_rfl) (fun _ _ _ h => h) (Or.inl ⟨by rfl, ?_⟩) ?_ ?_
          rotate_left
          · intro w'
            go_simp
            with_reducible rfl
          rotate_left
          · simp only [Act.put, List.setIfInBounds_toArray, List.set_cons_zero, List.set_cons_succ]
            rfl
          refine pure_ (i := 11) (N := some 29) (v := ?_) (a' := ?_) #[true, true, true, true, true, true, true, true, true, true, true, true, false, false, false, false, false] rfl rfl (by kernel_rfl) (fun _ _ _ h => h) (Or.inl ⟨by rfl, ?_⟩) ?_ ?_
          rotate_left
          · intro w'
            go_simp
            with_reducible rfl
          rotate_left
          · simp only [Act.put, List.setIfInBounds_toArray, List.set_cons_zero, List.set_cons_succ]
            rfl
          refine pure_ (i := 12) (N := some 30) (v := ?_) (a' := ?_) #[true, true, true, true, true, true, true, true, true, true, true, true, true, false, false, false, false] rfl rfl (by kernel_rfl) (fun _ _ _ h => h) (Or.inl ⟨by rfl, ?_⟩) ?_ ?_
          rotate_left
          · intro w'
            go_simp
            with_reducible rfl
          rotate_left
          · simp only [Act.put, List.setIfInBounds_toArray, List.set_cons_zero, List.set_cons_succ]
            rfl
          refine take_ (i := 13) (N := some 31) (v := ?_) (a' := ?_) #[true, true, true, true, true, true, true, true, true, true, true, true, true, true, false, false, false] rfl rfl (by kernel_rfl) (fun _ _ _ h => h) (Or.inl ⟨by rfl, ?_⟩) hHeld ?_ ?_
          rotate_left
          · rintro w' ⟨s0, s1⟩
            go_simp
            with_reducible rfl
          rotate_left
          · simp only [Act.put, List.setIfInBounds_toArray, List.set_cons_zero, List.set_cons_succ]
            rfl
          refine one_ (i := 14) (N := some 32) #[true, true, true, true, true, true, true, true, true, true, true, true, true, true, true, false, false] rfl rfl (by kernel_rfl) (by decide) (fun K hK => ?_)
          refine call_ f (#[.slice x1 x2 x3, .slice y1 y2 y3] ++ cb) (by rfl) rfl ?hrun ?_
          case hrun => have he := ef; unfold execOp; simp [resolve, Deferred.ofValue, invoke, Act.eval, he]
          (with_reducible refine (HC.out _ HD.out).mono ?_)
          rintro e w4 ⟨rfl, hb4⟩
          have HB4 := Aside0.mk hb4
          clear hb4
          refine ⟨_, rfl, ?_⟩
          refine hK.out _ _ (HF.out w4 (HD.out.trans (HB4.out.mono (Nat.le_refl _)))).2 (fun hHeld => ?_)
          clear hK K
          refine norm_ (a' := ?_) ?_ ?_
          rotate_left
          · show Act.put _ (some 32) _ = _
            simp only [Act.put, List.setIfInBounds_toArray, List.set_cons_zero, List.set_cons_succ]
            rfl
          refine pure_ (i := 15) (N := some 33) (v := ?_) (a' := ?_) #[true, true, true, true, true, true, true, true, true, true, true, true, true, true, true, true, false] rfl rfl (by kernel_rfl) (fun _ _ _ h => h) (Or.inl ⟨by rfl, ?_⟩) ?_ ?_
          rotate_left
          · intro w'
            go_simp
            with_reducible rfl
          rotate_left
          · simp only [Act.put, List.setIfInBounds_toArray, List.set_cons_zero, List.set_cons_succ]
            rfl
          refine pure_ (i := 16) (N := some 34) (v := ?_) (a' := ?_) #[true, true, true, true, true, true, true, true, true, true, true, true, true, true, true, true, true] rfl rfl (by kernel_rfl) (fun _ _ _ h => h) (Or.inl ⟨by rfl, ?_⟩) ?_ ?_
          rotate_left
          · intro w'
            go_simp
            with_reducible rfl
          rotate_left
          · simp only [Act.put, List.setIfInBounds_toArray, List.set_cons_zero, List.set_cons_succ]
            rfl
          refine done_ (by kernel_rfl) ?_
          have HD4 : Aside0 (Below wr.heap.size wr w4) := ⟨HD.out.trans (HB4.out.mono (Nat.le_refl _))⟩
          clear HB4 HD HC hHeld
          by_cases hlt2 : cf x y < 0
          · have q5 : decide (cf x y < 0) = true := decide_eq_true hlt2
            have HI2 : Aside0 (ins (ltc cf) S3 x ++ y :: S2 = ins (ltc cf) S x) := ⟨by rw [← HI.out, hS3, ins_go _ _ _ _ (by unfold ltc; exact decide_eq_true hlt2)]; simp⟩
            have HJ3 : Aside0 (a + S3.length = jp ∧ jp + (y :: S2).length = i) := ⟨HJ2.out.1, by have := HJ2.out.2; rw [List.length_cons]; omega⟩
            obtain ⟨hs4, ca, cb2⟩ := HF.out w4 HD4.out
            have fa := hs4.frozen (jp + 1)
            have fb := hs4.frozen jp
            obtain ⟨u, cu⟩ := hs4.behind (jp + 1) jp (Nat.lt_of_succ_lt HIN.out) (.slice y1 y2 y3)
            have HS5 := Aside0.mk (HSW.out w4 HD4.out)
            clear hs4 HF HSW HD4 HJ2 HI
            rw [q5]
            have q6 : (cf x y < 0) = True := eq_true hlt2
            clear hlt2
            go_wp2_with fail
            go_big_region_o
            clear ca cb2 fa fb cu
            generalize ((w4.setCell ⟨g, jp + 1, none⟩ (.slice y1 y2 y3)).setCell ⟨g, jp, none⟩ (.slice x1 x2 x3)).drew = w5 at HS5 ⊢
            go_wp2
            go_roundw
            case rel => exact ⟨S3, y :: S2, jp, by first | rfl | go_num, by omega, by omega, HJ3, HS5, HI2⟩
            case measure => simp [intOf]
          · have q5 : decide (cf x y < 0) = false := decide_eq_false hlt2
            have hin2 : ins (ltc cf) S x = S3 ++ [y] ++ [x] ++ S2 := by rw [← HI.out, hS3, ins_stop _ _ _ _ (by unfold ltc; exact decide_eq_false hlt2)]
            have HS6 : Aside0 (SR w0 g H (P ++ ins (ltc cf) S x ++ R' ++ Q) w4) := ⟨by have := (HF.out w4 HD4.out).1; rw [hin2]; simpa using this⟩
            have HL3 : Aside0 (a + (ins (ltc cf) S x).length = i + 1 ∧ i + 1 + R'.length = b) := ⟨by rw [ins_len]; have := HL2.out.1; omega, HL2.out.2⟩
            clear HF HSW HD4 HJ2 HI hin2 HL2
            rw [q5]
            have q6 : (cf x y < 0) = False := eq_false hlt2
            clear hlt2
            go_wp2
            go_roundw
            case rel => exact ⟨ins (ltc cf) S x, R', i + 1, by first | rfl | go_num, by omega, by omega, HL3, HS6, HT2⟩
            case measure => simp [intOf]; omega
    · have q1 : decide ((i : Int) < (b : Int)) = false := decide_eq_false (by omega)
      have q2 : decide (i < b) = false := decide_eq_false hlt
      have hR : R = [] := List.length_eq_zero_iff.1 (by have := HL.out.2; omega)
      have HE : Aside0 (SR w0 g H (P ++ T ++ Q) wr) := ⟨by have h1 := HS.out; have h2 := HT.out; rw [hR] at h1 h2; rw [← h2]; simpa [isort] using h1⟩
      clear HS HT HL hR
      go_wp2
      go_end0
      exact ⟨rfl, HE.out⟩
end Go.Proofs.Ythpoeljnmdjjiaa.Srt
