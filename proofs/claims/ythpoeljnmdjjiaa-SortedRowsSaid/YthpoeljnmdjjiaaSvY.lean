/-
  Several texts in one (by wip/gprint/mergeh.py), in their order.
-/
import Derived.Test.YthpoeljnmdjjiaaSvX
import Derived.Outline
import Derived.Laws.MathBits
import Derived.Test.YthpoeljnmdjjiaaStY
section
/-
  Sorting, by hand: the order of whole rows (sorted.full, slices.CompareFunc), in which no unlike ones are alike.
-/
namespace Go.Proofs.Ythpoeljnmdjjiaa.PSrn
open Go.RowKit Go.Proofs.Ythpoeljnmdjjiaa.Hand Go.Proofs.Ythpoeljnmdjjiaa.Srt Go.Proofs.YthpoeljnmdjjiaaW.PrintWords Go.Proofs.YthpoeljnmdjjiaaW.PrintLast Go.Proofs.YthpoeljnmdjjiaaW.PrintMore
attribute [local go_sem high] eqA28
set_option linter.unusedVariables false
set_option linter.unusedSimpArgs false

def eqV (x y : S28) : Bool := x.f0 == y.f0 && (x.f1 == y.f1 && (x.f2.toList == y.f2.toList))
/-- The order of values in which no unlike ones are alike. -/
def cmpF (x y : S28) : Int :=
  if eqV x y = true then 0 else if x.f0 ≠ y.f0 then cmpI x.f0 y.f0 else if x.f1 < y.f1 ∨ (x.f1 = y.f1 ∧ Op.bytesLess x.f2.toList y.f2.toList = true) then -1 else 1
def fullRow : List S28 → List S28 → Int
  | [], [] => 0
  | [], _ :: _ => -1
  | _ :: _, [] => 1
  | x :: a, y :: b => if cmpF x y = 0 then fullRow a b else cmpF x y

set_option maxHeartbeats 4000000 in
set_option maxRecDepth 100000 in
theorem full1_calls (x y : S28) (w : World) : Calls Try.prog 49 #[.agg #[.int .i64 x.f0, .int .i64 x.f1, .string x.f2], .agg #[.int .i64 y.f0, .int .i64 y.f1, .string y.f2]] w fun e w' => e = .returned (.int .i64 (cmpF x y)) ∧ Below w.heap.size w w' ∧ w.drawn ≤ w'.drawn := by
  have hu28 := Try.underlying28
  obtain ⟨x0, x1, x2⟩ := x
  obtain ⟨y0, y1, y2⟩ := y
  unfold cmpF eqV
  simp only
  have HCI : Aside0 (∀ w1, Calls Try.prog 50 #[.int .i64 x0, .int .i64 y0] w1 fun e w' => e = .returned (.int .i64 (cmpI x0 y0)) ∧ Drawn0 w1 w') := ⟨fun w1 => cmp_Compare_int.calls _ _ _ w1 (cmpi_f x0 y0)⟩
  by_cases h0 : x0 = y0
  · subst h0
    by_cases h1 : x1 = y1
    · subst h1
      by_cases h2 : x2.toList = y2.toList
      · have q2 : (x2.toList == y2.toList) = true := beq_iff_eq.mpr h2
        rw [if_pos (by rw [q2]; simp)]
        go_enter Try.func49, Try.ntmps49
        go_wp2
        go_ret
        exact ⟨rfl, by repeat (first | exact Below.refl _ _ | apply below_alloc), Nat.le_refl _⟩
      · have q2 : (x2.toList == y2.toList) = false := beq_eq_false_iff_ne.mpr h2
        rw [if_neg (by rw [q2]; simp), if_neg (by simp)]
        by_cases h3 : Op.bytesLess x2.toList y2.toList = true
        · rw [if_pos (.inr ⟨rfl, h3⟩)]
          go_enter Try.func49, Try.ntmps49
          go_wp2
          go_ret
          exact ⟨rfl, by repeat (first | exact Below.refl _ _ | apply below_alloc), Nat.le_refl _⟩
        · have h3b : Op.bytesLess x2.toList y2.toList = false := by simpa using h3
          rw [if_neg (by rintro (h | ⟨_, h⟩); exact absurd h (Int.lt_irrefl _); exact h3 h)]
          go_enter Try.func49, Try.ntmps49
          go_wp2
          go_ret
          exact ⟨rfl, by repeat (first | exact Below.refl _ _ | apply below_alloc), Nat.le_refl _⟩
    · have q1 : (x1 == y1) = false := beq_eq_false_iff_ne.mpr h1
      rw [if_neg (by rw [q1]; simp), if_neg (by simp)]
      by_cases h3 : x1 < y1
      · rw [if_pos (.inl h3)]
        have q3 : decide (x1 < y1) = true := decide_eq_true h3
        go_enter Try.func49, Try.ntmps49
        go_wp2
        go_ret
        exact ⟨rfl, by repeat (first | exact Below.refl _ _ | apply below_alloc), Nat.le_refl _⟩
      · rw [if_neg (by rintro (h | ⟨h, _⟩); exact h3 h; exact h1 h)]
        have q3 : decide (x1 < y1) = false := decide_eq_false h3
        go_enter Try.func49, Try.ntmps49
        go_wp2
        go_ret
        exact ⟨rfl, by repeat (first | exact Below.refl _ _ | apply below_alloc), Nat.le_refl _⟩
  · have q0 : (x0 == y0) = false := beq_eq_false_iff_ne.mpr h0
    have q1 : (x0 != y0) = true := by rw [bne, q0]; rfl
    rw [if_neg (by rw [q0]; simp), if_pos h0]
    go_enter Try.func49, Try.ntmps49
    go_wp2_with (go_at_call 50; refine (HCI.out _).mono ?_; rintro e w1 ⟨rfl, ⟨nd, rfl⟩⟩)
    go_ret
    exact ⟨rfl, by repeat (first | exact Below.refl _ _ | apply below_alloc | apply pw_below_drewN), Nat.le_add_right _ _⟩
end Go.Proofs.Ythpoeljnmdjjiaa.PSrn
end
section
/-
  Sorting, by hand: slices.CompareFunc, sorted.full; slices.EqualFunc over sorted.Bag's closure.
-/
namespace Go.Proofs.Ythpoeljnmdjjiaa.PSrn
open Go.RowKit Go.Proofs.Ythpoeljnmdjjiaa.Hand Go.Proofs.Ythpoeljnmdjjiaa.Srt Go.Proofs.YthpoeljnmdjjiaaW.PrintWords Go.Proofs.YthpoeljnmdjjiaaW.PrintLast Go.Proofs.YthpoeljnmdjjiaaW.PrintMore
set_option linter.unusedVariables false
set_option linter.unusedSimpArgs false

theorem rd28 (x : List S28) (i : Nat) (h : i < x.length) : rd_T28 x (i : Int) = x[i] := by
  unfold rd_T28; rw [List.getD_eq_getElem?_getD, Int.toNat_natCast, List.getElem?_eq_getElem h]; rfl
theorem fullRow_end (a b : List S28) (i : Nat) (h1 : i = a.length) (h2 : i ≤ b.length) : fullRow (a.drop i) (b.drop i) = if a.length < b.length then -1 else 0 := by
  subst h1
  rw [List.drop_eq_nil_of_le (Nat.le_refl _)]
  by_cases h : a.length < b.length
  · rw [if_pos h, List.drop_eq_getElem_cons h]; rfl
  · rw [if_neg h, List.drop_eq_nil_of_le (by omega)]; rfl

set_option maxHeartbeats 4000000 in
set_option maxRecDepth 100000 in
theorem compareFunc_calls (A : Option Addr) (ca : Nat) (a : List S28) (B : Option Addr) (cb : Nat) (b : List S28) (w : World) (ha : Kd.C k28 w A a.length a) (hb : Kd.C k28 w B b.length b) :
    Calls Try.prog 48 #[.slice A a.length ca, .slice B b.length cb, .func (.func 49) #[] #[]] w fun e w' => e = .returned (.int .i64 (fullRow a b)) ∧ Below w.heap.size w w' ∧ w.drawn ≤ w'.drawn := by
  have hu28 := Try.underlying28
  have hla := ha.2.1
  have hlb := hb.2.1
  have HA := Aside0.mk ha
  have HBB := Aside0.mk hb
  have HB := Aside0.mk (Below.refl w.heap.size w)
  have HD := Aside0.mk (Nat.le_refl w.drawn)
  have H0 : Aside0 (fullRow a b = fullRow (a.drop 0) (b.drop 0)) := ⟨by rw [List.drop_zero, List.drop_zero]⟩
  clear ha hb
  go_enter Try.func48, Try.ntmps48
  go_wp2
  go_loopw [13] (fun v13 wr => ∃ i : Nat, v13 = .int .i64 i ∧ i ≤ a.length ∧ i ≤ b.length ∧ Aside0 (fullRow a b = fullRow (a.drop i) (b.drop i)) ∧ Aside0 (Below w.heap.size w wr) ∧ Aside0 (w.drawn ≤ wr.drawn)) (fun v13 _ => a.length - (intOf v13).toNat)
  case atStart => exact ⟨0, rfl, Nat.zero_le _, Nat.zero_le _, H0, HB, HD⟩
  case round =>
    clear H0 HB HD
    obtain ⟨i, rfl, hi, hi2, HF, HB, HD⟩ := hrel
    by_cases hlt : i < a.length
    · have q2 : decide ((i : Int) < (a.length : Int)) = true := decide_eq_true (by omega)
      have q3 : decide (i < a.length) = true := decide_eq_true hlt
      have p1 : (0 ≤ (i : Int)) = True := eq_true (by omega)
      have p2 : ((i : Int) < (a.length : Int)) = True := eq_true (by omega)
      have p3 : (i < a.length) = True := eq_true hlt
      obtain ⟨ad, e, hx0, hx1, hx2⟩ := at_T28 (Kd.C_below HA.out HB.out) (i : Int) (by omega) (by omega)
      cases e
      rw [Int.toNat_natCast, rd28 a i hlt] at hx0 hx1 hx2
      by_cases hltb : i < b.length
      · have q4 : decide ((i : Int) ≥ (b.length : Int)) = false := decide_eq_false (by omega)
        have q5 : decide ((b.length : Int) ≤ (i : Int)) = false := decide_eq_false (by omega)
        have q6 : decide (b.length ≤ i) = false := decide_eq_false (by omega)
        have p4 : ((i : Int) < (b.length : Int)) = True := eq_true (by omega)
        have p5 : (i < b.length) = True := eq_true hltb
        obtain ⟨bd, e, hy0, hy1, hy2⟩ := at_T28 (Kd.C_below HBB.out HB.out) (i : Int) (by omega) (by omega)
        cases e
        rw [Int.toNat_natCast, rd28 b i hltb] at hy0 hy1 hy2
        have HF2 := HF.out
        rw [List.drop_eq_getElem_cons hlt, List.drop_eq_getElem_cons hltb] at HF2
        change _ = (if cmpF a[i] b[i] = 0 then fullRow (a.drop (i + 1)) (b.drop (i + 1)) else cmpF a[i] b[i]) at HF2
        have HCALL : Aside0 (∀ w1, Calls Try.prog 49 #[.agg #[.int .i64 a[i].f0, .int .i64 a[i].f1, .string a[i].f2], .agg #[.int .i64 b[i].f0, .int .i64 b[i].f1, .string b[i].f2]] w1 fun e w' => e = .returned (.int .i64 (cmpF a[i] b[i])) ∧ Below w1.heap.size w1 w' ∧ w1.drawn ≤ w'.drawn) := ⟨fun w1 => full1_calls a[i] b[i] w1⟩
        generalize cmpF a[i] b[i] = v at HF2 HCALL
        generalize a[i] = x at hx0 hx1 hx2 HCALL
        generalize b[i] = y at hy0 hy1 hy2 HCALL
        clear HF
        go_upto_region 6 with (fail)
        have hbW : Below wr.heap.size wr (wr.alloc (.cells #[.int .i64 x.f0, .int .i64 x.f1, .string x.f2] 28)) := below_alloc (Below.refl wr.heap.size wr) _
        have HBW1 := Aside0.mk (HB.out.trans (hbW.mono HB.out.size))
        have HDW1 : Aside0 (w.drawn ≤ (wr.alloc (.cells #[.int .i64 x.f0, .int .i64 x.f1, .string x.f2] 28)).drawn) := ⟨HD.out⟩
        have hv0 := (blk_cell (blk_new wr (.cells #[.int .i64 x.f0, .int .i64 x.f1, .string x.f2] 28)) 0).trans rfl
        have hv1 := (blk_cell (blk_new wr (.cells #[.int .i64 x.f0, .int .i64 x.f1, .string x.f2] 28)) 1).trans rfl
        have hv2 := (blk_cell (blk_new wr (.cells #[.int .i64 x.f0, .int .i64 x.f1, .string x.f2] 28)) 2).trans rfl
        have hlt1 : wr.heap.size < (wr.alloc (.cells #[.int .i64 x.f0, .int .i64 x.f1, .string x.f2] 28)).heap.size := blk_lt (blk_new wr _)
        replace hy0 := (hbW.cell (World.block_lt_of_cell? wr _ hy0)).trans hy0
        replace hy1 := (hbW.cell (World.block_lt_of_cell? wr _ hy1)).trans hy1
        replace hy2 := (hbW.cell (World.block_lt_of_cell? wr _ hy2)).trans hy2
        generalize wr.alloc (.cells #[.int .i64 x.f0, .int .i64 x.f1, .string x.f2] 28) = W1 at *
        generalize wr.heap.size = g1 at *
        clear hx0 hx1 hx2
        go_upto_region 7 with (fail)
        have hbW2 : Below W1.heap.size W1 (W1.alloc (.cells #[.int .i64 y.f0, .int .i64 y.f1, .string y.f2] 28)) := below_alloc (Below.refl W1.heap.size W1) _
        have HBW2 := Aside0.mk (HBW1.out.trans (hbW2.mono HBW1.out.size))
        have HDW2 : Aside0 (w.drawn ≤ (W1.alloc (.cells #[.int .i64 y.f0, .int .i64 y.f1, .string y.f2] 28)).drawn) := ⟨HDW1.out⟩
        have hu0 := (blk_cell (blk_new W1 (.cells #[.int .i64 y.f0, .int .i64 y.f1, .string y.f2] 28)) 0).trans rfl
        have hu1 := (blk_cell (blk_new W1 (.cells #[.int .i64 y.f0, .int .i64 y.f1, .string y.f2] 28)) 1).trans rfl
        have hu2 := (blk_cell (blk_new W1 (.cells #[.int .i64 y.f0, .int .i64 y.f1, .string y.f2] 28)) 2).trans rfl
        replace hv0 := (hbW2.cell (p := ⟨g1, 0, none⟩) hlt1).trans hv0
        replace hv1 := (hbW2.cell (p := ⟨g1, 1, none⟩) hlt1).trans hv1
        replace hv2 := (hbW2.cell (p := ⟨g1, 2, none⟩) hlt1).trans hv2
        generalize W1.alloc (.cells #[.int .i64 y.f0, .int .i64 y.f1, .string y.f2] 28) = W2 at *
        generalize W1.heap.size = g2 at *
        clear hy0 hy1 hy2
        by_cases hv : v = 0
        · rw [if_pos hv] at HF2
          have HF3 := Aside0.mk HF2
          have q7 : (v != 0) = false := by rw [hv]; rfl
          clear HF2 hv
          go_wp2_with (go_at_call 49; (with_reducible refine (HCALL.out _).mono ?_); rintro e w4 ⟨rfl, hb4, hd4⟩; have HB4 := Aside0.mk (HBW2.out.trans (hb4.mono HBW2.out.size)); have HD4 := Aside0.mk (Nat.le_trans HDW2.out hd4); clear hb4 hd4 HCALL)
          go_roundw
          case rel => exact ⟨i + 1, by first | rfl | go_num, by omega, by omega, HF3, HB4, HD4⟩
          case measure => simp only [intOf]; omega
        · rw [if_neg hv] at HF2
          have HF3 := Aside0.mk HF2
          have q7 : (v != 0) = true := by rw [bne_iff_ne]; exact hv
          clear HF2 hv
          go_wp2_with (go_at_call 49; (with_reducible refine (HCALL.out _).mono ?_); rintro e w4 ⟨rfl, hb4, hd4⟩; have HB4 := Aside0.mk (HBW2.out.trans (hb4.mono HBW2.out.size)); have HD4 := Aside0.mk (Nat.le_trans HDW2.out hd4); clear hb4 hd4 HCALL)
          go_ret
          exact ⟨by rw [HF3.out]; rfl, HB4.out, HD4.out⟩
      · have q4 : decide ((i : Int) ≥ (b.length : Int)) = true := decide_eq_true (by omega)
        have q5 : decide ((b.length : Int) ≤ (i : Int)) = true := decide_eq_true (by omega)
        have q6 : decide (b.length ≤ i) = true := decide_eq_true (by omega)
        have HF2 := HF.out
        rw [List.drop_eq_getElem_cons hlt, List.drop_eq_nil_of_le (show b.length ≤ i by omega)] at HF2
        have HF3 : Aside0 (fullRow a b = 1) := ⟨HF2⟩
        generalize a[i] = x at hx0 hx1 hx2
        have HBW1 : Aside0 (Below w.heap.size w (wr.alloc (.cells #[.int .i64 x.f0, .int .i64 x.f1, .string x.f2] 28))) := ⟨HB.out.trans ((below_alloc (Below.refl wr.heap.size wr) _).mono HB.out.size)⟩
        clear HF HF2
        go_wp2
        go_ret
        exact ⟨by rw [HF3.out]; rfl, HBW1.out, HD.out⟩
    · have q2 : decide ((i : Int) < (a.length : Int)) = false := decide_eq_false (by omega)
      have q3 : decide (i < a.length) = false := decide_eq_false hlt
      have HF3 : Aside0 (fullRow a b = if a.length < b.length then -1 else 0) := ⟨HF.out.trans (fullRow_end a b i (by omega) hi2)⟩
      clear HF
      by_cases hab : a.length < b.length
      · have q4 : decide ((a.length : Int) < (b.length : Int)) = true := decide_eq_true (by omega)
        have q5 : decide (a.length < b.length) = true := decide_eq_true hab
        rw [if_pos hab] at HF3
        go_wp2
        go_ret
        exact ⟨by rw [HF3.out]; rfl, HB.out, HD.out⟩
      · have q4 : decide ((a.length : Int) < (b.length : Int)) = false := decide_eq_false (by omega)
        have q5 : decide (a.length < b.length) = false := decide_eq_false hab
        rw [if_neg hab] at HF3
        go_wp2
        go_ret
        exact ⟨by rw [HF3.out]; rfl, HB.out, HD.out⟩

set_option maxRecDepth 100000 in
theorem full_calls2 (A : Option Addr) (ca : Nat) (a : List S28) (B : Option Addr) (cb : Nat) (b : List S28) (w : World) (ha : Kd.C k28 w A a.length a) (hb : Kd.C k28 w B b.length b) :
    Calls Try.prog 31 #[.slice A a.length ca, .slice B b.length cb] w fun e w' => e = .returned (.int .i64 (fullRow a b)) ∧ Below w.heap.size w w' ∧ w.drawn ≤ w'.drawn := by
  have HC := Aside0.mk (compareFunc_calls A ca a B cb b w ha hb)
  clear ha hb
  go_enter Try.func31, Try.ntmps31
  go_wp2_with (go_at_call 48; refine HC.out.mono ?_; rintro e w4 ⟨rfl, hb4⟩; have HB4 := Aside0.mk hb4; clear hb4)
  go_ret
  exact ⟨rfl, HB4.out.1, HB4.out.2⟩
theorem full_calls (A : Option Addr) (ca : Nat) (a : List S28) (B : Option Addr) (cb : Nat) (b : List S28) (w : World) (ha : Kd.C k28 w A a.length a) (hb : Kd.C k28 w B b.length b) :
    Calls Try.prog 31 #[.slice A a.length ca, .slice B b.length cb] w fun e w' => e = .returned (.int .i64 (fullRow a b)) ∧ Below w.heap.size w w' :=
  (full_calls2 A ca a B cb b w ha hb).mono fun _ _ ⟨h1, h2, _⟩ => ⟨h1, h2⟩
end Go.Proofs.Ythpoeljnmdjjiaa.PSrn
end
section
/-
  Sorting, by hand: slices.EqualFunc over sorted.Bag's closure.
-/
namespace Go.Proofs.Ythpoeljnmdjjiaa.PSrn
open Go.RowKit Go.Proofs.Ythpoeljnmdjjiaa.Hand Go.Proofs.Ythpoeljnmdjjiaa.Srt Go.Proofs.YthpoeljnmdjjiaaW.PrintWords Go.Proofs.YthpoeljnmdjjiaaW.PrintLast Go.Proofs.YthpoeljnmdjjiaaW.PrintMore
set_option linter.unusedVariables false
set_option linter.unusedSimpArgs false

def eqRow : List S28 → List S28 → Bool
  | [], [] => true
  | x :: a, y :: b => eqV x y && eqRow a b
  | _, _ => false
theorem eqRow_len : ∀ a b, eqRow a b = true → a.length = b.length
  | [], [], _ => rfl
  | [], _ :: _, h => by simp [eqRow] at h
  | _ :: _, [], h => by simp [eqRow] at h
  | x :: a, y :: b, h => by
    simp only [eqRow, Bool.and_eq_true] at h
    rw [List.length_cons, List.length_cons, eqRow_len a b h.2]
theorem neq_f (x y : S28) : (!(x.f0 == y.f0) || (!(x.f1 == y.f1) || !(x.f2.toList == y.f2.toList))) = !(eqV x y) := by
  unfold eqV
  cases (x.f0 == y.f0) <;> cases (x.f1 == y.f1) <;> cases (x.f2.toList == y.f2.toList) <;> rfl
theorem equal_l (x0 x1 : List S28) (hl : x0.length = x1.length) (h0 : x0.length ≤ 9223372036854775807) : ∀ (d k i : Nat), i + d = x0.length → d < k →
    api_Val.l0 k x0 x1 (x0.length : Int) (i : Int) = some (eqRow (x0.drop i) (x1.drop i)) := by
  intro d
  induction d with
  | zero =>
    intro k i hi hk
    obtain ⟨k, rfl⟩ : ∃ m, k = m + 1 := ⟨k - 1, by omega⟩
    simp only [api_Val.l0]
    rw [if_neg (by omega), List.drop_eq_nil_of_le (show x0.length ≤ i by omega), List.drop_eq_nil_of_le (show x1.length ≤ i by omega)]
    rfl
  | succ d ih =>
    intro k i hi hk
    obtain ⟨k, rfl⟩ : ∃ m, k = m + 1 := ⟨k - 1, by omega⟩
    have g0 : i < x0.length := by omega
    have g1 : i < x1.length := by omega
    simp only [api_Val.l0]
    rw [if_pos (by omega), if_pos (by omega), if_pos (by omega), if_pos (by omega), neq_f, rd28 _ _ g0, rd28 _ _ g1]
    rw [List.drop_eq_getElem_cons g0, List.drop_eq_getElem_cons g1]
    have hw : wrap64 ((i : Int) + 1) = ((i + 1 : Nat) : Int) := by unfold wrap64; omega
    unfold eqRow
    cases he : eqV x0[i] x1[i]
    · rfl
    · simp only [Bool.not_true, Bool.true_and, Bool.false_eq_true, if_false]
      rw [hw]
      exact ih k (i + 1) (by omega) (by omega)
theorem equal_f (k : Nat) (x0 x1 : List S28) (h0 : x0.length ≤ 9223372036854775807) (hk : x0.length < k) : api_Val.f k x0 x1 = some (eqRow x0 x1) := by
  unfold api_Val.f
  by_cases hl : x0.length = x1.length
  · rw [if_pos (by omega)]
    have := equal_l x0 x1 hl h0 x0.length k 0 (by omega) (by omega)
    simpa using this
  · rw [if_neg (by omega)]
    congr 1
    symm
    apply Bool.eq_false_iff.2
    intro h
    exact hl (eqRow_len _ _ h)
set_option maxRecDepth 100000 in
theorem bag1_calls (A : Option Addr) (ca : Nat) (a : List S28) (B : Option Addr) (cb : Nat) (b : List S28) (w : World) (ha : Kd.C k28 w A a.length a) (hca : a.length ≤ ca) (hb : Kd.C k28 w B b.length b) (hcb : b.length ≤ cb) :
    Calls Try.prog 33 #[.slice A a.length ca, .slice B b.length cb] w fun e w' => e = .returned (.bool (eqRow a b)) ∧ Below w.heap.size w w' := by
  have HC := Aside0.mk (api_Val.calls (a.length + 1) A ca a B cb b _ w ha hca hb hcb (equal_f _ a b ha.2.1 (by omega)))
  have HB := Aside0.mk (Below.refl w.heap.size w)
  clear ha hca hb hcb
  go_enter Try.func33, Try.ntmps33
  go_wp2_with (go_at_call 34; refine HC.out.mono ?_; rintro e w4 ⟨rfl, hd⟩; obtain ⟨m, rfl⟩ := hd.out; have HB4 := Aside0.mk (pw_below_drewN HB.out m); clear hd)
  go_ret
  exact ⟨rfl, HB4.out⟩
/-- Two rows of rows are the same. -/
def eqRows : List (List S28) → List (List S28) → Bool
  | [], [] => true
  | x :: a, y :: b => eqRow x y && eqRows a b
  | _, _ => false
theorem eqRows_len : ∀ a b, eqRows a b = true → a.length = b.length
  | [], [], _ => rfl
  | [], _ :: _, h => by simp [eqRows] at h
  | _ :: _, [], h => by simp [eqRows] at h
  | x :: a, y :: b, h => by
    simp only [eqRows, Bool.and_eq_true] at h
    rw [List.length_cons, List.length_cons, eqRows_len a b h.2]
theorem rdL3 (x : List (List S28)) (i : Nat) (h : i < x.length) : rd_L3 x (i : Int) = x[i] := by
  unfold rd_L3; rw [List.getD_eq_getElem?_getD, Int.toNat_natCast, List.getElem?_eq_getElem h]; rfl

set_option maxHeartbeats 4000000 in
set_option maxRecDepth 100000 in
theorem equalFunc_calls (A : Option Addr) (ca : Nat) (a : List (List S28)) (B : Option Addr) (cb : Nat) (b : List (List S28)) (w : World) (ha : Kd.C (Kd.slice 28 k28) w A a.length a) (hb : Kd.C (Kd.slice 28 k28) w B b.length b) :
    Calls Try.prog 32 #[.slice A a.length ca, .slice B b.length cb, .func (.func 33) #[] #[]] w fun e w' => e = .returned (.bool (eqRows a b)) ∧ Below w.heap.size w w' := by
  have hla := ha.2.1
  have hlb := hb.2.1
  have HA := Aside0.mk ha
  have HBB := Aside0.mk hb
  have HB := Aside0.mk (Below.refl w.heap.size w)
  clear ha hb
  by_cases hab : a.length = b.length
  · have q1 : ((a.length : Int) != (b.length : Int)) = false := by rw [hab]; simp
    have q0 : (a.length != b.length) = false := by rw [hab]; simp
    have q00 : ((b.length : Int) != (b.length : Int)) = false := by simp
    have H0 : Aside0 (eqRows a b = eqRows (a.drop 0) (b.drop 0)) := ⟨by rw [List.drop_zero, List.drop_zero]⟩
    have HAB := Aside0.mk hab
    clear hab
    go_enter Try.func32, Try.ntmps32
    go_wp2
    go_loopw [17] (fun v17 wr => ∃ i : Nat, v17 = .int .i64 i ∧ i ≤ a.length ∧ Aside0 (eqRows a b = eqRows (a.drop i) (b.drop i)) ∧ Aside0 (Below w.heap.size w wr)) (fun v17 _ => a.length - (intOf v17).toNat)
    case atStart => exact ⟨0, rfl, Nat.zero_le _, H0, HB⟩
    case round =>
      clear H0 HB
      obtain ⟨i, rfl, hi, HF, HB⟩ := hrel
      by_cases hlt : i < a.length
      · have q2 : decide ((i : Int) < (a.length : Int)) = true := decide_eq_true (by omega)
        have q3 : decide (i < a.length) = true := decide_eq_true hlt
        have p1 : (0 ≤ (i : Int)) = True := eq_true (by omega)
        have p2 : ((i : Int) < (a.length : Int)) = True := eq_true (by omega)
        have p3 : (i < a.length) = True := eq_true hlt
        have hltb : i < b.length := by have := HAB.out; omega
        have p4 : ((i : Int) < (b.length : Int)) = True := eq_true (by omega)
        have p5 : (i < b.length) = True := eq_true hltb
        obtain ⟨ad, X1, X3, e, hx0, hcx, hCx⟩ := at_L3 (Kd.C_below HA.out HB.out) (i : Int) (by omega) (by omega)
        cases e
        obtain ⟨bd, Y1, Y3, e, hy0, hcy, hCy⟩ := at_L3 (Kd.C_below HBB.out HB.out) (i : Int) (by omega) (by omega)
        cases e
        rw [Int.toNat_natCast, rdL3 a i hlt] at hx0
        rw [Int.toNat_natCast, rdL3 b i hltb] at hy0
        rw [rdL3 a i hlt] at hcx hCx
        rw [rdL3 b i hltb] at hcy hCy
        have HF2 := HF.out
        rw [List.drop_eq_getElem_cons hlt, List.drop_eq_getElem_cons hltb] at HF2
        change _ = (eqRow a[i] b[i] && eqRows (a.drop (i + 1)) (b.drop (i + 1))) at HF2
        have HCALL := Aside0.mk (bag1_calls X1 X3 a[i] Y1 Y3 b[i] wr hCx hcx hCy hcy)
        clear hcx hCx hcy hCy
        generalize eqRow a[i] b[i] = v at HF2 HCALL
        generalize a[i] = x at hx0 HCALL
        generalize b[i] = y at hy0 HCALL
        clear HF
        cases v with
        | true =>
          rw [Bool.true_and] at HF2
          have HF3 := Aside0.mk HF2
          clear HF2
          go_wp2_with (go_at_call 33; (with_reducible refine HCALL.out.mono ?_); rintro e w4 ⟨rfl, hb4⟩; have HB4 := Aside0.mk (HB.out.trans (hb4.mono HB.out.size)); clear hb4 HCALL)
          go_roundw
          case rel => exact ⟨i + 1, by first | rfl | go_num, by omega, HF3, HB4⟩
          case measure => simp only [intOf]; omega
        | false =>
          rw [Bool.false_and] at HF2
          have HF3 := Aside0.mk HF2
          clear HF2
          go_wp2_with (go_at_call 33; (with_reducible refine HCALL.out.mono ?_); rintro e w4 ⟨rfl, hb4⟩; have HB4 := Aside0.mk (HB.out.trans (hb4.mono HB.out.size)); clear hb4 HCALL)
          go_ret
          exact ⟨by rw [HF3.out]; rfl, HB4.out⟩
      · have q2 : decide ((i : Int) < (a.length : Int)) = false := decide_eq_false (by omega)
        have q3 : decide (i < a.length) = false := decide_eq_false hlt
        have HF3 : Aside0 (eqRows a b = true) := ⟨by rw [HF.out, List.drop_eq_nil_of_le (by omega), List.drop_eq_nil_of_le (by have := HAB.out; omega)]; rfl⟩
        clear HF
        go_wp2
        go_ret
        exact ⟨by rw [HF3.out]; rfl, HB.out⟩
  · have q1 : ((a.length : Int) != (b.length : Int)) = true := by rw [bne_iff_ne]; omega
    have q0 : (a.length != b.length) = true := by rw [bne_iff_ne]; omega
    have HF3 : Aside0 (eqRows a b = false) := ⟨Bool.eq_false_iff.2 (fun h => hab (eqRows_len _ _ h))⟩
    go_enter Try.func32, Try.ntmps32
    go_wp2
    go_ret
    exact ⟨by rw [HF3.out]; rfl, HB.out⟩
end Go.Proofs.Ythpoeljnmdjjiaa.PSrn
end
section
/-
  Sorting, by hand: math/bits.Len of small numbers.
-/
namespace Go.Proofs.Ythpoeljnmdjjiaa.PSrn
open Go.RowKit Go.Proofs.Ythpoeljnmdjjiaa.Hand Go.Proofs.Ythpoeljnmdjjiaa.Srt Go.Proofs.YthpoeljnmdjjiaaW.PrintWords Go.Proofs.YthpoeljnmdjjiaaW.PrintLast Go.Proofs.YthpoeljnmdjjiaaW.PrintMore
set_option linter.unusedVariables false
set_option linter.unusedSimpArgs false

theorem len_key (u : UInt8) : ∃ r : Nat, wrap64 (wrap64 (u.toNat : Int)) = (r : Int) ∧ r ≤ 1000 := by
  have := u.toNat_lt
  exact ⟨u.toNat, by unfold wrap64; omega, by omega⟩
theorem len_key8 (u : UInt8) : ∃ r : Nat, wrap64 (8 + wrap64 (u.toNat : Int)) = (r : Int) ∧ r ≤ 1000 := by
  have := u.toNat_lt
  exact ⟨8 + u.toNat, by unfold wrap64; omega, by omega⟩
set_option maxHeartbeats 4000000 in
set_option maxRecDepth 1000000 in
theorem len64_calls (n : Nat) (h : n < 65536) (w : World) :
    Calls Try.prog 72 #[.int .u64 n] w fun e w' => ∃ r : Nat, e = .returned (.int .i64 r) ∧ r ≤ 1000 ∧ w' = w := by
  have q1 : decide ((n : Int) ≥ 4294967296) = false := decide_eq_false (by omega)
  have q2 : decide ((n : Int) ≥ 65536) = false := decide_eq_false (by omega)
  by_cases h3 : n < 256
  · have q3 : decide ((n : Int) ≥ 256) = false := decide_eq_false (by omega)
    go_enter Try.func72, Try.ntmps72
    go_wp2
    go_ret
    exact (len_key _).elim fun r hr => ⟨r, congrArg (fun x => Ending.returned (.int .i64 x)) hr.1, hr.2, rfl⟩
  · have q3 : decide ((n : Int) ≥ 256) = true := decide_eq_true (by omega)
    obtain ⟨m, hm⟩ : ∃ m : Nat, (n : Int) / 256 = (m : Int) := ⟨n / 256, by omega⟩
    have hm2 : m < 256 := by omega
    go_enter Try.func72, Try.ntmps72
    go_wp2
    go_ret
    exact (len_key8 _).elim fun r hr => ⟨r, congrArg (fun x => Ending.returned (.int .i64 x)) hr.1, hr.2, rfl⟩
set_option maxRecDepth 100000 in
theorem len_calls (n : Nat) (h : n < 65536) (w : World) :
    Calls Try.prog 47 #[.int .u64 n] w fun e w' => ∃ r : Nat, e = .returned (.int .i64 r) ∧ r ≤ 1000 ∧ w' = w := by
  have HC := Aside0.mk (len64_calls n h w)
  go_enter Try.func47, Try.ntmps47
  go_wp2_with (go_at_call 72; refine HC.out.mono ?_; rintro e w4 ⟨r, rfl, hr, rfl⟩; have HR := Aside0.mk hr; clear hr)
  go_ret
  exact ⟨r, rfl, HR.out, rfl⟩

set_option maxHeartbeats 1000000 in
set_option maxRecDepth 100000 in
/-- A sort of 12 or fewer is an insertion sort. -/
theorem pdq_small (R : World → Prop) (dv fv : Value) (n : Nat) (hn : n ≤ 12) (lim : Int) (w : World)
    (h : Calls Try.prog 59 #[dv, .int .i64 0, .int .i64 n, fv] w fun e w' => e = .returned (.tuple #[]) ∧ R w') :
    Calls Try.prog 46 #[dv, .int .i64 0, .int .i64 n, .int .i64 lim, fv] w fun e w' => e = .returned (.tuple #[]) ∧ R w' := by
  have HC := Aside0.mk h
  have q1 : decide ((n : Int) ≤ 12) = true := decide_eq_true (by omega)
  have q2 : decide (n ≤ 12) = true := decide_eq_true (by omega)
  clear h
  go_enter Try.func46, Try.ntmps46
  go_wp2
  go_loopw [1, 2, 3, 10, 11] (fun v1 v2 v3 v10 v11 wr => v1 = .int .i64 0 ∧ v2 = .int .i64 n ∧ v3 = .int .i64 lim ∧ v10 = .bool true ∧ v11 = .bool true ∧ Aside0 (wr = w)) (fun _ _ _ _ _ _ => 0)
  case atStart => exact ⟨rfl, rfl, rfl, rfl, rfl, ⟨rfl⟩⟩
  case round =>
    obtain ⟨rfl, rfl, rfl, rfl, rfl, HW⟩ := hrel
    rw [HW.out]
    clear HW
    go_wp2_with (go_at_call 59; refine HC.out.mono ?_; rintro e w4 ⟨rfl, hr⟩; have HR := Aside0.mk hr; clear hr)
    refine bodyPost_ret (results_none rfl _ _ _) rfl ?_
    exact ⟨rfl, HR.out⟩
set_option maxRecDepth 100000 in
theorem sortFunc_of (R : World → Prop) (A : Option Addr) (n c : Nat) (fv : Value) (hn : n < 65536) (w : World)
    (h : ∀ lim : Nat, lim ≤ 1000 → Calls Try.prog 46 #[.slice A n c, .int .i64 0, .int .i64 n, .int .i64 lim, fv] w fun e w' => e = .returned (.tuple #[]) ∧ R w') :
    Calls Try.prog 30 #[.slice A n c, fv] w fun e w' => e = .returned (.tuple #[]) ∧ R w' := by
  have HC := Aside0.mk h
  have HL := Aside0.mk (len_calls n hn w)
  clear h
  go_enter Try.func30, Try.ntmps30
  go_wp2_with (first
    | (go_at_call 47; refine HL.out.mono ?_; rintro e w4 ⟨r, rfl, hr, rfl⟩; have HR := Aside0.mk hr; clear hr)
    | (go_at_call 46; refine (HC.out r HR.out).mono ?_; rintro e w5 ⟨rfl, hr5⟩; have HR5 := Aside0.mk hr5; clear hr5))
  go_end0
  exact ⟨rfl, HR5.out⟩
end Go.Proofs.Ythpoeljnmdjjiaa.PSrn
end
section
/-
  Sorting, plain: the order of whole rows is an order, and unlike ones are not alike; sorted rows are told by what they hold.
-/
namespace Go.Proofs.Ythpoeljnmdjjiaa.PSrn
open Go.RowKit Go.Proofs.Ythpoeljnmdjjiaa.Hand Go.Proofs.Ythpoeljnmdjjiaa.Srt Go.Proofs.YthpoeljnmdjjiaaW.PrintWords Go.Proofs.YthpoeljnmdjjiaaW.PrintLast Go.Proofs.YthpoeljnmdjjiaaW.PrintMore
set_option linter.unusedVariables false
set_option linter.unusedSimpArgs false

/-- First by one, then by another. -/
def thenI (a b : Int) : Int := if a = 0 then b else a
theorem thenI_anti {a b a' b' : Int} (h1 : a' = -a) (h2 : b' = -b) : thenI a' b' = - thenI a b := by
  unfold thenI
  by_cases h : a = 0
  · rw [if_pos h, if_pos (by omega), h2]
  · rw [if_neg h, if_neg (by omega), h1]
/-- A comparison that is an order. -/
structure Ord {α : Type} (c : α → α → Int) : Prop where
  anti : ∀ x y, c y x = - c x y
  trans : ∀ x y z, c x y ≤ 0 → c y z ≤ 0 → c x z ≤ 0
theorem Ord.zero_left {α : Type} {c : α → α → Int} (C : Ord c) {x y : α} (h : c x y = 0) (z : α) : (c x z ≤ 0 ↔ c y z ≤ 0) ∧ (0 ≤ c x z ↔ 0 ≤ c y z) := by
  have a1 := C.anti x y
  have a2 := C.anti x z
  have a3 := C.anti y z
  have t1 := C.trans y x z (by omega)
  have t2 := C.trans x y z (by omega)
  have t3 := fun h => C.trans z x y h (by omega)
  have t4 := fun h => C.trans z y x h (by omega)
  omega
theorem Ord.then_ {α : Type} {c d : α → α → Int} (C : Ord c) (D : Ord d) : Ord (fun x y => thenI (c x y) (d x y)) := by
  refine ⟨fun x y => thenI_anti (C.anti x y) (D.anti x y), fun x y z h1 h2 => ?_⟩
  unfold thenI at *
  have a2 := C.anti y z
  by_cases hxy : c x y = 0
  · rw [if_pos hxy] at h1
    have hz := C.zero_left hxy z
    by_cases hyz : c y z = 0
    · rw [if_pos hyz] at h2
      rw [if_pos (by omega)]
      exact D.trans x y z h1 h2
    · rw [if_neg hyz] at h2
      rw [if_neg (by omega)]
      omega
  · rw [if_neg hxy] at h1
    by_cases hyz : c y z = 0
    · have hz := C.zero_left (x := z) (y := y) (by omega) x
      have a3 := C.anti x z
      have a4 := C.anti x y
      rw [if_neg (by omega)]
      omega
    · rw [if_neg hyz] at h2
      have h3 := C.trans x y z h1 h2
      rw [if_neg ?_]
      · exact h3
      · intro h0
        have hz := C.zero_left h0 y
        have a3 := C.anti y z
        omega
theorem ord_cmpI {α : Type} (f : α → Int) : Ord (fun x y => cmpI (f x) (f y)) := ⟨fun x y => cmpI_anti _ _, fun x y z h1 h2 => cmpI_trans h1 h2⟩
theorem ord_str {α : Type} (f : α → ByteArray) : Ord (fun x y => strCmp (f x) (f y)) := ⟨fun x y => strCmp_anti _ _, fun x y z h1 h2 => strCmp_trans h1 h2⟩
def cmp3 (x y : S28) : Int := thenI (cmpI x.f0 y.f0) (thenI (cmpI x.f1 y.f1) (strCmp x.f2 y.f2))
theorem cmp3_ord : Ord cmp3 := (ord_cmpI S28.f0).then_ ((ord_cmpI S28.f1).then_ (ord_str S28.f2))
theorem eqV_eq {x y : S28} : eqV x y = true ↔ x = y := by
  unfold eqV
  obtain ⟨a, b, c⟩ := x
  obtain ⟨a', b', c'⟩ := y
  simp only [Bool.and_eq_true, beq_iff_eq, S28.mk.injEq]
  constructor
  · rintro ⟨rfl, rfl, h⟩
    refine ⟨rfl, rfl, ?_⟩
    have h2 := (strCmp_zero c c').1 (by unfold strCmp; rw [h, less_irrefl, if_neg (by simp), if_pos rfl])
    exact h2
  · rintro ⟨rfl, rfl, rfl⟩
    exact ⟨rfl, rfl, rfl⟩
theorem cmpF_3 (x y : S28) : cmpF x y = cmp3 x y := by
  unfold cmpF cmp3 thenI
  by_cases h0 : x.f0 = y.f0
  · have e0 : cmpI x.f0 y.f0 = 0 := (cmpI_zero _ _).2 h0
    rw [if_pos e0]
    by_cases h1 : x.f1 = y.f1
    · have e1 : cmpI x.f1 y.f1 = 0 := (cmpI_zero _ _).2 h1
      rw [if_pos e1]
      unfold strCmp eqV
      by_cases h2 : x.f2.toList = y.f2.toList
      · rw [if_pos (by simp [h0, h1, h2]), h2, less_irrefl, if_neg (by simp), if_pos rfl]
      · rw [if_neg (by simp [h2]), if_neg (by simp [h0])]
        by_cases h3 : Op.bytesLess x.f2.toList y.f2.toList = true
        · rw [if_pos (.inr ⟨h1, h3⟩), if_pos h3]
        · rw [if_neg (by rintro (h | ⟨_, h⟩); omega; exact h3 h), if_neg h3, if_neg h2]
    · have e1 : ¬ cmpI x.f1 y.f1 = 0 := fun h => h1 ((cmpI_zero _ _).1 h)
      rw [if_neg e1]
      have h2 : ¬ eqV x y = true := fun h => h1 (congrArg S28.f1 (eqV_eq.1 h))
      rw [if_neg h2, if_neg (by simp [h0])]
      unfold cmpI
      by_cases h3 : x.f1 < y.f1
      · rw [if_pos (.inl h3), if_pos h3]
      · rw [if_neg (by rintro (h | ⟨h, _⟩) <;> omega), if_neg h3, if_pos (by omega)]
  · have e0 : ¬ cmpI x.f0 y.f0 = 0 := fun h => h0 ((cmpI_zero _ _).1 h)
    have h2 : ¬ eqV x y = true := fun h => h0 (congrArg S28.f0 (eqV_eq.1 h))
    rw [if_neg e0, if_neg h2, if_pos h0]
theorem cmpF_zero {x y : S28} : cmpF x y = 0 ↔ x = y := by
  constructor
  · intro h
    rw [← eqV_eq]
    unfold cmpF at h
    by_cases he : eqV x y = true
    · exact he
    · rw [if_neg he] at h
      split at h
      · rename_i h0
        exact absurd ((cmpI_zero _ _).1 h) h0
      · split at h <;> omega
  · rintro rfl
    unfold cmpF
    rw [if_pos (eqV_eq.2 rfl)]
theorem ordF : Ord cmpF := by
  have : cmpF = cmp3 := by funext x y; exact cmpF_3 x y
  rw [this]; exact cmp3_ord
theorem fullRow_cons (x y : S28) (a b : List S28) : fullRow (x :: a) (y :: b) = thenI (cmpF x y) (fullRow a b) := rfl
theorem fullRow_anti : ∀ a b, fullRow b a = - fullRow a b
  | [], [] => rfl
  | [], _ :: _ => rfl
  | _ :: _, [] => rfl
  | x :: a, y :: b => by rw [fullRow_cons, fullRow_cons]; exact thenI_anti (ordF.anti x y) (fullRow_anti a b)
theorem fullRow_zero : ∀ {a b}, fullRow a b = 0 ↔ a = b
  | [], [] => by simp [fullRow]
  | [], _ :: _ => by simp [fullRow]
  | _ :: _, [] => by simp [fullRow]
  | x :: a, y :: b => by
    rw [fullRow_cons, List.cons.injEq, ← cmpF_zero, ← fullRow_zero (a := a) (b := b)]
    unfold thenI
    by_cases h : cmpF x y = 0
    · rw [if_pos h]; simp [h]
    · rw [if_neg h]; simp [h]
theorem fullRow_trans : ∀ a b c, fullRow a b ≤ 0 → fullRow b c ≤ 0 → fullRow a c ≤ 0
  | [], b, [], _, _ => by simp [fullRow]
  | [], b, _ :: _, _, _ => by simp [fullRow]
  | _ :: _, [], _, h, _ => by simp [fullRow] at h
  | _ :: _, _ :: _, [], _, h => by simp [fullRow] at h
  | x :: a, y :: b, z :: c, h1, h2 => by
    rw [fullRow_cons] at *
    have a1 := ordF.anti x y
    have a2 := ordF.anti y z
    have a3 := ordF.anti x z
    unfold thenI at *
    by_cases hxy : cmpF x y = 0
    · obtain rfl := cmpF_zero.1 hxy
      rw [if_pos hxy] at h1
      by_cases hyz : cmpF x z = 0
      · rw [if_pos hyz] at h2 ⊢
        exact fullRow_trans a b c h1 h2
      · rw [if_neg hyz] at h2 ⊢
        exact h2
    · rw [if_neg hxy] at h1
      by_cases hyz : cmpF y z = 0
      · obtain rfl := cmpF_zero.1 hyz
        rw [if_neg hxy]; exact h1
      · rw [if_neg hyz] at h2
        have h3 := ordF.trans x y z h1 h2
        by_cases hxz : cmpF x z = 0
        · obtain rfl := cmpF_zero.1 hxz
          omega
        · rw [if_neg hxz]; exact h3
theorem eqRow_eq : ∀ {a b}, eqRow a b = true ↔ a = b
  | [], [] => by simp [eqRow]
  | [], _ :: _ => by simp [eqRow]
  | _ :: _, [] => by simp [eqRow]
  | x :: a, y :: b => by
    rw [List.cons.injEq, ← eqV_eq, ← eqRow_eq (a := a) (b := b)]
    simp only [eqRow, Bool.and_eq_true]
theorem eqRows_eq : ∀ {a b}, eqRows a b = true ↔ a = b
  | [], [] => by simp [eqRows]
  | [], _ :: _ => by simp [eqRows]
  | _ :: _, [] => by simp [eqRows]
  | x :: a, y :: b => by
    rw [List.cons.injEq, ← eqRow_eq, ← eqRows_eq (a := a) (b := b)]
    simp only [eqRows, Bool.and_eq_true]
/-- Rows in the order of whole rows that hold the same, each as often, are the same. -/
theorem full_unique : ∀ {l m : List (List S28)}, l.Pairwise (fun a b => fullRow a b ≤ 0) → m.Pairwise (fun a b => fullRow a b ≤ 0) → l.Perm m → l = m
  | [], m, _, _, hp => hp.nil_eq
  | x :: l, [], _, _, hp => by have := hp.length_eq; simp at this
  | x :: l, y :: m, h1, h2, hp => by
    obtain ⟨a1, a2⟩ := List.pairwise_cons.1 h1
    obtain ⟨b1, b2⟩ := List.pairwise_cons.1 h2
    have hxy : x = y := by
      rcases List.mem_cons.1 (hp.mem_iff.1 (List.mem_cons_self ..) : x ∈ y :: m) with e | hx
      · exact e
      · rcases List.mem_cons.1 (hp.mem_iff.2 (List.mem_cons_self ..) : y ∈ x :: l) with e | hy
        · exact e.symm
        · have c1 := b1 x hx
          have c2 := a1 y hy
          have := fullRow_anti x y
          exact fullRow_zero.1 (by omega)
    subst hxy
    rw [full_unique a2 b2 ((List.perm_cons x).1 hp)]
def cfFull (rows : List (List S28)) (i j : Nat) : Int := fullRow (rows.getD i []) (rows.getD j [])
theorem cfFull_ok (rows : List (List S28)) : Cf (cfFull rows) := ⟨fun i j => fullRow_anti _ _, fun i j k => fullRow_trans _ _ _⟩
/-- Rows in the order of whole rows. -/
def inFull (rows : List (List S28)) : List (List S28) := (places (cfFull rows) rows.length).map fun i => rows.getD i []
theorem map_range {α : Type} (d : α) (rows : List α) : (List.range rows.length).map (fun i => rows.getD i d) = rows := by
  refine List.ext_getElem (by simp) (fun i h1 h2 => ?_)
  simp [h2]
/-- Places in the order of whole rows, however found. -/
def Wk (cf : Nat → Nat → Int) (Z : List Nat) : Prop := Z.Pairwise (fun i j => cf i j ≤ 0)
theorem Srd.wk {cf : Nat → Nat → Int} {Z : List Nat} (h : Srd cf Z) : Wk cf Z := List.Pairwise.imp (fun h => Ah.le h) h
theorem inFull_ok (rows : List (List S28)) : (inFull rows).Pairwise (fun a b => fullRow a b ≤ 0) ∧ (inFull rows).Perm rows := by
  obtain ⟨h1, h2⟩ := places_ok (cfFull_ok rows) rows.length
  unfold inFull
  refine ⟨List.pairwise_map.2 (Srd.wk h1), ?_⟩
  have := h2.map fun i => rows.getD i []
  rw [map_range] at this
  exact this
theorem inFull_of {rows : List (List S28)} {Z : List Nat} (h : Wk (cfFull rows) Z) (hp : Z.Perm (List.range rows.length)) : Z.map (fun i => rows.getD i []) = inFull rows := by
  refine full_unique (List.pairwise_map.2 h) (inFull_ok rows).1 ?_
  have := hp.map fun i => rows.getD i []
  rw [map_range] at this
  exact this.trans (inFull_ok rows).2.symm
def bagB (a b : List (List S28)) : Bool := eqRows (inFull a) (inFull b)
theorem bagB_iff (a b : List (List S28)) : bagB a b = true ↔ a.Perm b := by
  unfold bagB
  rw [eqRows_eq]
  constructor
  · intro h
    exact (inFull_ok a).2.symm.trans (h ▸ (inFull_ok b).2)
  · intro h
    exact full_unique (inFull_ok a).1 (inFull_ok b).1 ((inFull_ok a).2.trans (h.trans (inFull_ok b).2.symm))
end Go.Proofs.Ythpoeljnmdjjiaa.PSrn
end
section
/-
  Sorting, by hand: sorted.Bag of 12 rows or fewer.
-/
namespace Go.Proofs.Ythpoeljnmdjjiaa.PSrn
open Go.RowKit Go.Proofs.Ythpoeljnmdjjiaa.Hand Go.Proofs.Ythpoeljnmdjjiaa.Srt Go.Proofs.YthpoeljnmdjjiaaW.PrintWords Go.Proofs.YthpoeljnmdjjiaaW.PrintLast Go.Proofs.YthpoeljnmdjjiaaW.PrintMore
set_option linter.unusedVariables false
set_option linter.unusedSimpArgs false

/-- A clone that is sorted: the headers stand in the order Z. -/
def SB (B : Nat) (rows : List (List S28)) (Hf : Nat → Hd) (v : Value) (Z : List Nat) (W : World) : Prop :=
  Z.Perm (List.range rows.length) ∧ ((rows.length = 0 ∧ ∃ A c, v = .slice A 0 c) ∨ (0 < rows.length ∧ ∃ g cap T, v = .slice (some ⟨g, 0, none⟩) rows.length cap ∧ B ≤ g ∧ W.heap[g]? = some (.cells (Z.map (fun i => hdr (Hf i)) ++ T).toArray 26 (0, 0))))
theorem SB.of_clone {w : World} {B : Nat} {v : Value} {rows : List (List S28)} {Hf : Nat → Hd} (h : Kd.R (Kd.raw 1) 26 w B (fun _ => True) v ((List.range rows.length).map fun i => [hdr (Hf i)])) : SB B rows Hf v (List.range rows.length) w := by
  refine ⟨List.Perm.refl _, ?_⟩
  rcases clone_block h with ⟨h0, A, c, e⟩ | ⟨h0, g, cap, T, e, hB, _, _, _, hb⟩
  · exact .inl ⟨h0, A, c, e⟩
  · exact .inr ⟨h0, g, cap, T, e, hB, hb⟩
theorem SB.slice {B : Nat} {rows : List (List S28)} {Hf : Nat → Hd} {v : Value} {Z : List Nat} {W : World} (h : SB B rows Hf v Z W) : ∃ A c, v = .slice A rows.length c := by
  rcases h.2 with ⟨h0, A, c, e⟩ | ⟨h0, g, cap, T, e, hB, hb⟩
  · exact ⟨A, c, by rw [h0]; exact e⟩
  · exact ⟨_, _, e⟩
theorem SB.reads {B : Nat} {rows : List (List S28)} {Hf : Nat → Hd} {A : Option Addr} {c : Nat} {Z : List Nat} {W : World} (h : SB B rows Hf (.slice A rows.length c) Z W) (hH : HdOf W rows Hf) (hl : rows.length ≤ 9223372036854775807) :
    Kd.C (Kd.slice 28 k28) W A (Z.map fun i => rows.getD i []).length (Z.map fun i => rows.getD i []) := by
  have hZ : Z.length = rows.length := by rw [h.1.length_eq]; simp
  refine ⟨rfl, by rw [List.length_map, hZ]; exact hl, fun h0 => ?_⟩
  rw [List.length_map, hZ] at h0
  rcases h.2 with ⟨h1, _⟩ | ⟨_, g, cap, T, e, hB, hb⟩
  · omega
  · injection e with e1 e2 e3
    refine ⟨_, e1, fun j p hj => ?_⟩
    have hjl : j < Z.length := by
      have := (List.getElem?_eq_some_iff.1 hj).1
      rwa [List.length_map] at this
    rw [List.getElem?_map, List.getElem?_eq_getElem hjl] at hj
    simp only [Option.map_some, Option.some.injEq] at hj
    subst hj
    refine ⟨[hdr (Hf Z[j])], rfl, ⟨_, _, by rw [hH.eq], hH.cap _, hH.rd _⟩, fun i u hi => ?_⟩
    cases i with
    | succ i => simp at hi
    | zero =>
      simp only [List.getElem?_cons_zero, Option.some.injEq] at hi
      subst hi
      show W.cell? ((⟨g, 0, none⟩ : Addr).add (j * 1 + 0)) = _
      rw [add_at, Nat.mul_one, Nat.add_zero, Nat.zero_add, blk_cell hb, List.getElem?_toArray, List.getElem?_append_left (by rw [List.length_map]; exact hjl), List.getElem?_map, List.getElem?_eq_getElem hjl]
      rfl
theorem SB.keep {B : Nat} {rows : List (List S28)} {Hf : Nat → Hd} {v : Value} {Z : List Nat} {W W1 : World} (h : SB B rows Hf v Z W) (hk : ∀ k, v.ownBlock = some k → k < W.heap.size → W1.heap[k]? = W.heap[k]?) : SB B rows Hf v Z W1 := by
  refine ⟨h.1, ?_⟩
  rcases h.2 with ⟨h0, A, c, e⟩ | ⟨h0, g, cap, T, e, hB, hb⟩
  · exact .inl ⟨h0, A, c, e⟩
  · exact .inr ⟨h0, g, cap, T, e, hB, (hk g (by rw [e]; rfl) (blk_lt hb)).trans hb⟩
theorem SB.below {B : Nat} {rows : List (List S28)} {Hf : Nat → Hd} {v : Value} {Z : List Nat} {W W1 : World} (h : SB B rows Hf v Z W) (hb : Below W.heap.size W W1) : SB B rows Hf v Z W1 := h.keep (fun k _ hk => hb.block k hk)
theorem full_ok {w w0 : World} {g : Nat} {rows : List (List S28)} {Hf : Nat → Hd} (hH : HdOf w rows Hf) (hw : Below w.heap.size w w0) (hg : w.heap.size ≤ g) : CmpOK w0 g Hf 31 #[] (cfFull rows) := by
  intro i j W h1 h2
  have hW : Below w.heap.size w W := hw.trans (h1.mono hg)
  have := hH.below hW
  rw [this.eq i, this.eq j]
  exact full_calls _ _ _ _ _ _ W (this.rd i) (this.rd j)
theorem insertion_zero' (dv fv : Value) (w : World) (n : Nat) (h : n = 0) :
    Calls Try.prog 59 #[dv, .int .i64 0, .int .i64 n, fv] w fun e w' => e = .returned (.tuple #[]) ∧ w' = w := by
  subst h; exact insertion_zero dv fv w
/-- What a sort of one's own clone does. -/
def SortsTo (w : World) (rows : List (List S28)) (Hf : Nat → Hd) (v : Value) (W W' : World) : Prop :=
  ∃ Z, Wk (cfFull rows) Z ∧ SB w.heap.size rows Hf v Z W' ∧ W.grownBy W' v.ownBlock
/-- The sort of a clone of its own, of 12 or fewer. -/
theorem sortBlk_small (w : World) (rows : List (List S28)) (Hf : Nat → Hd) (A : Option Addr) (c : Nat) (W : World) (hH : HdOf w rows Hf) (hw : Below w.heap.size w W) (hn : rows.length ≤ 12) (h : SB w.heap.size rows Hf (.slice A rows.length c) (List.range rows.length) W) :
    Calls Try.prog 30 #[.slice A rows.length c, .func (.func 31) #[] #[]] W fun e W' => e = .returned (.tuple #[]) ∧ SortsTo w rows Hf (.slice A rows.length c) W W' := by
  refine sortFunc_of _ A rows.length c _ (by omega) W (fun lim _ => pdq_small _ _ _ rows.length hn lim W ?_)
  rcases h.2 with ⟨h0, A', c', e⟩ | ⟨h0, g, cap, T, e, hB, hb⟩
  · refine (insertion_zero' _ _ W rows.length h0).mono ?_
    rintro e2 W' ⟨h1, rfl⟩
    refine ⟨h1, _, ?_, h, ⟨rfl, rfl, rfl, Nat.le_refl _, fun _ _ _ => rfl⟩⟩
    rw [h0]; exact List.Pairwise.nil
  · injection e with e1 e2 e3
    subst e1
    have hSR : SR W g Hf ([] ++ List.range rows.length ++ []) W := ⟨⟨(List.range rows.length).map (fun i => hdr (Hf i)), T, by simp, hb, by simpa using hb⟩, Below.refl _ _, KeepBut.refl _ _ _⟩
    refine (insertion_calls Hf W g c 31 #[] (cfFull rows) (fun _ _ => rfl) (full_ok hH hw hB) [] (List.range rows.length) [] rows.length 0 rows.length W (by simp) (by omega) rfl (by simp) (by simpa using h0) hSR).mono ?_
    rintro e4 W' ⟨h1, h2⟩
    have h3 := places_ok (cfFull_ok rows) rows.length
    refine ⟨h1, places (cfFull rows) rows.length, Srd.wk h3.1, ⟨h3.2, .inr ⟨h0, g, c, ?_⟩⟩, ?_⟩
    · obtain ⟨L0, T2, _, _, hb2⟩ := h2.blk
      rw [List.nil_append, List.append_nil] at hb2
      exact ⟨T2, rfl, hB, hb2⟩
    · exact ⟨h2.below.os, h2.below.tape, h2.below.output, h2.below.size, fun k hk hne => h2.keep.2 k hk (fun he => hne (by rw [he]; rfl)) (by simp)⟩
end Go.Proofs.Ythpoeljnmdjjiaa.PSrn
end
section
/-
  Sorting, by hand: the sort of a clone of whatever length (slices.SortFunc as the kit's shelf has it).
-/
namespace Go.Proofs.Ythpoeljnmdjjiaa.PSrn
open Go.RowKit Go.Proofs.Ythpoeljnmdjjiaa.Hand Go.Proofs.Ythpoeljnmdjjiaa.Srt Go.Proofs.YthpoeljnmdjjiaaW.PrintWords Go.Proofs.YthpoeljnmdjjiaaW.PrintLast Go.Proofs.YthpoeljnmdjjiaaW.PrintMore
set_option linter.unusedVariables false
set_option linter.unusedSimpArgs false

/-- A world that has but grown. -/
theorem grow_of {W W' : World} (h : Below W.heap.size W W') (hd : W.drawn ≤ W'.drawn) : ∃ q os', W' = Sort.grow (W.drewN q) os' := by
  refine ⟨W'.drawn - W.drawn, W'.heap.extract W.heap.size, ?_⟩
  have hh : W.heap ++ W'.heap.extract W.heap.size = W'.heap := by
    refine Array.ext_getElem? (fun k => ?_)
    rw [Array.getElem?_append]
    have hs := h.size
    split
    · rename_i hk
      exact (h.block k hk).symm
    · rename_i hk
      rw [Array.getElem?_extract]
      split
      · congr 1; omega
      · rename_i h2
        rw [Array.getElem?_eq_none (by omega)]
  obtain ⟨heap, tape, drawn, os, output⟩ := W
  obtain ⟨heap', tape', drawn', os', output'⟩ := W'
  obtain ⟨h1, h2, h3, h4, h5⟩ := h
  simp only at h1 h2 h3 hh hd
  subst h1 h2 h3
  unfold Sort.grow World.drewN
  simp only
  rw [hh]
  congr 1
  omega
theorem putCells_all (enc : Nat → Value) (d : Array Nat) (L T : List Value) (h : d.size = L.length) : Sort.putCells enc 0 d (L ++ T).toArray = (d.toList.map enc ++ T).toArray := by
  refine Array.ext (by simp [Sort.putCells, h]) (fun i h1 h2 => ?_)
  simp only [Sort.putCells, Array.getElem_mapIdx]
  by_cases hi : i < d.size
  · rw [if_pos ⟨Nat.zero_le _, by omega⟩]
    simp only [List.getElem_toArray]
    rw [List.getElem_append_left (by simpa using hi), List.getElem_map, Nat.sub_zero, getElem!_pos d i hi]
    simp
  · rw [if_neg (by omega)]
    simp only [List.getElem_toArray]
    rw [List.getElem_append_right (by omega), List.getElem_append_right (by simp; omega)]
    simp [h]
theorem sw_blk {enc : Nat → Value} {W : World} {g m : Nat} {d : Array Nat} {os : Array Obj} {cs : Array Value} (h : W.heap[g]? = some (.cells cs 26 (0, 0))) : (sortWorld enc W g 0 m d os).heap[g]? = some (.cells (Sort.putCells enc 0 d cs) 26 (0, 0)) := by
  have hg := blk_lt h
  unfold sortWorld Sort.grow Sort.putRow Sort.mapBlock Sort.ahead
  simp only
  rw [Array.getElem?_append_left (by simpa using hg), Array.getElem?_modify]
  simp [h, Sort.onCells]
theorem sw_other {enc : Nat → Value} {W : World} {g m : Nat} {d : Array Nat} {os : Array Obj} {k : Nat} (hk : k < W.heap.size) (hne : k ≠ g) : (sortWorld enc W g 0 m d os).heap[k]? = W.heap[k]? := by
  unfold sortWorld Sort.grow Sort.putRow Sort.mapBlock Sort.ahead
  simp only
  rw [Array.getElem?_append_left (by simpa using hk), Array.getElem?_modify, if_neg (fun h => hne h.symm)]
theorem sw_size {enc : Nat → Value} {W : World} {g m : Nat} {d : Array Nat} {os : Array Obj} : W.heap.size ≤ (sortWorld enc W g 0 m d os).heap.size := by
  unfold sortWorld Sort.grow Sort.putRow Sort.mapBlock Sort.ahead
  simp
theorem sw_grown {enc : Nat → Value} {W : World} {g m c n : Nat} {d : Array Nat} {os : Array Obj} : W.grownBy (sortWorld enc W g 0 m d os) (Value.slice (some ⟨g, 0, none⟩) n c).ownBlock :=
  ⟨rfl, rfl, rfl, sw_size, fun k hk hne => sw_other hk (fun h => hne (by rw [h]; rfl))⟩
theorem swo_of {cf : Nat → Nat → Int} (C : Cf cf) : Sort.SWO (ltOf cf) := by
  refine ⟨fun x => ?_, fun x y z h1 h2 => ?_, fun x y z h1 h2 => ?_⟩
  · have := C.anti x x
    exact decide_eq_false (by omega)
  · have h1 := of_decide_eq_true h1
    have h2 := of_decide_eq_true h2
    have h3 := C.trans x y z (by omega) (by omega)
    refine decide_eq_true ?_
    have a1 := C.anti x z
    have a2 := C.anti y z
    have a3 := C.anti x y
    rcases Int.lt_or_eq_of_le h3 with h | h
    · exact h
    · have h5 := C.trans z x y (by omega) (by omega)
      omega
  · have h1 := of_decide_eq_false h1
    have h2 := of_decide_eq_false h2
    have a1 := C.anti x y
    have a2 := C.anti y z
    have a3 := C.anti x z
    have h3 := C.trans z y x (by omega) (by omega)
    exact decide_eq_false (by omega)
/-- The sort of a clone of its own, of whatever length. -/
theorem sortBlk_any (w : World) (rows : List (List S28)) (Hf : Nat → Hd) (A : Option Addr) (c : Nat) (W : World) (hH : HdOf w rows Hf) (hw : Below w.heap.size w W) (hn : rows.length ≤ 10000) (h : SB w.heap.size rows Hf (.slice A rows.length c) (List.range rows.length) W) :
    Calls Try.prog 30 #[.slice A rows.length c, .func (.func 31) #[] #[]] W fun e W' => e = .returned (.tuple #[]) ∧ SortsTo w rows Hf (.slice A rows.length c) W W' := by
  rcases Nat.lt_or_ge 12 rows.length with h12 | h12
  · rcases h.2 with ⟨h0, _⟩ | ⟨h0, g, cap, T, e, hB, hb⟩
    · omega
    · injection e with e1 e2 e3
      subst e1
      have hgl := blk_lt hb
      have hCf := cfFull_ok rows
      have hcmp : CmpLays1 Try.prog 31 #[] (fun i => hdr (Hf i)) (cfFull rows) g 0 (Array.range rows.length).size W := by
        intro m os dk _ x y
        have hW : Below w.heap.size w (sortWorld (fun i => hdr (Hf i)) W g 0 m dk os) := hw.trans ⟨rfl, rfl, rfl, sw_size, fun k hk => sw_other (Nat.lt_of_lt_of_le hk hw.size) (by omega)⟩
        have h1 := hH.below hW
        have := full_calls2 (Hf x).1 (Hf x).2.2 (rows.getD x []) (Hf y).1 (Hf y).2.2 (rows.getD y []) _ (h1.rd x) (h1.rd y)
        rw [← h1.eq, ← h1.eq] at this
        refine Calls.mono this ?_
        rintro e w' ⟨h2, h3, h4⟩
        exact ⟨h2, grow_of h3 h4⟩
      have hH0 : Sort.Holds (fun i => hdr (Hf i)) W g 0 (Array.range rows.length) := by
        intro j hj
        have hj2 : j < rows.length := by simpa using hj
        refine ⟨?_, blk_frozen hb _⟩
        rw [Nat.zero_add, blk_cell hb, List.getElem?_toArray, List.getElem?_append_left (by simpa using hj2), List.getElem?_map, List.getElem?_range hj2]
        simp [hj2]
      have key := Any.slices_SortFunc srtLays (fun i => hdr (Hf i)) (fun _ => rfl) (cfFull rows) (swo_of hCf) 31 #[] g 0 c (Array.range rows.length) W (fun _ _ => rfl) hcmp hH0 hgl (by simp; omega)
      rw [Array.size_range] at key
      refine (show Calls Try.prog 30 #[.slice (some ⟨g, 0, none⟩) rows.length c, .func (.func 31) #[] #[]] W _ from key).mono ?_
      rintro e4 W' ⟨h1, d', n, os, ⟨p1, p2, p3⟩, hs, rfl⟩
      rw [Array.size_range] at p1
      have hperm : d'.toList.Perm (List.range rows.length) := by
        have e1 : (d'.extract 0 rows.length).toList = d'.toList := by rw [← p1]; simp
        have e2 : ((Array.range rows.length).extract 0 rows.length).toList = List.range rows.length := by simp [Array.toList_range]
        rw [e1, e2] at p3
        exact p3
      refine ⟨h1, d'.toList, ?_, ⟨hperm, .inr ⟨h0, g, c, T, rfl, hB, ?_⟩⟩, sw_grown⟩
      · refine List.pairwise_iff_getElem.2 (fun i j hi hj hij => ?_)
        have := of_decide_eq_false (hs i j (Nat.zero_le _) hij (by rw [← p1]; simpa using hj))
        have a1 := hCf.anti d'.toList[i] d'.toList[j]
        have ei : d'[i]! = d'.toList[i] := by rw [getElem!_pos d' i (by simpa using hi)]; simp
        have ej : d'[j]! = d'.toList[j] := by rw [getElem!_pos d' j (by simpa using hj)]; simp
        rw [ei, ej] at this
        omega
      · rw [sw_blk hb, putCells_all _ _ _ _ (by rw [p1]; simp)]
  · exact sortBlk_small w rows Hf A c W hH hw h12 h
end Go.Proofs.Ythpoeljnmdjjiaa.PSrn
end
section
/-
  Sorting, by hand: sorted.Bag, its walk (rows of 10000 or fewer).
-/
namespace Go.Proofs.Ythpoeljnmdjjiaa.PSrn
open Go.RowKit Go.Proofs.Ythpoeljnmdjjiaa.Hand Go.Proofs.Ythpoeljnmdjjiaa.Srt Go.Proofs.YthpoeljnmdjjiaaW.PrintWords Go.Proofs.YthpoeljnmdjjiaaW.PrintLast Go.Proofs.YthpoeljnmdjjiaaW.PrintMore
set_option linter.unusedVariables false
set_option linter.unusedSimpArgs false

def bagF (a b : List (List S28)) : Option Bool := if a.length ≤ 10000 ∧ b.length ≤ 10000 then some (bagB a b) else none
theorem below_own {w W W' : World} {v : Value} (h : Below w.heap.size w W) (hg : W.grownBy W' v.ownBlock) (hv : ∀ k, v.ownBlock = some k → w.heap.size ≤ k) : Below w.heap.size w W' := h.grown hg h.size hv

set_option maxHeartbeats 4000000 in
set_option maxRecDepth 100000 in
theorem bag_calls (A0 : Option Addr) (c0 : Nat) (l0 : List (List S28)) (A1 : Option Addr) (c1 : Nat) (l1 : List (List S28)) (r1 : Bool) (w : World)
    (hr0 : Kd.C (Kd.slice 28 k28) w A0 l0.length l0) (hc0 : l0.length ≤ c0) (hr1 : Kd.C (Kd.slice 28 k28) w A1 l1.length l1) (hc1 : l1.length ≤ c1) (h : bagF l0 l1 = some r1) :
    Calls Try.prog 13 #[.slice A0 l0.length c0, .slice A1 l1.length c1] w fun e w' => e = .returned (.bool r1) ∧ Below w.heap.size w w' := by
  unfold bagF at h
  have hg : l0.length ≤ 10000 ∧ l1.length ≤ 10000 := Decidable.byContradiction (fun hg => by rw [if_neg hg] at h; cases h)
  rw [if_pos hg] at h
  have hr := Option.some.inj h
  subst hr
  obtain ⟨hl0, hl1⟩ := hg
  obtain ⟨Hf, hH, hC⟩ := rows_hd hr0
  obtain ⟨Hg, hH1, hC1⟩ := rows_hd hr1
  have hlen : ((List.range l0.length).map fun i => [hdr (Hf i)]).length = l0.length := by simp
  have hlen1 : ((List.range l1.length).map fun i => [hdr (Hg i)]).length = l1.length := by simp
  have hclone := cloneL_calls A0 c0 ((List.range l0.length).map fun i => [hdr (Hf i)]) w (by rw [hlen]; exact hC) (by rw [hlen]; omega)
  rw [hlen] at hclone
  have HCA := Aside0.mk hclone
  have HCB : Aside0 (∀ w2, Below w.heap.size w w2 → Calls Try.prog 25 #[.slice A1 l1.length c1] w2 fun e w' => ∃ v, e = .returned v ∧ Kd.R (Kd.raw 1) 26 w' w2.heap.size (fun _ => True) v ((List.range l1.length).map fun i => [hdr (Hg i)]) ∧ Below w2.heap.size w2 w') := ⟨fun w2 hb => by
    have := cloneL_calls A1 c1 ((List.range l1.length).map fun i => [hdr (Hg i)]) w2 (by rw [hlen1]; exact Kd.C_below hC1 hb) (by rw [hlen1]; omega)
    rw [hlen1] at this
    exact this⟩
  have HH := Aside0.mk hH
  have HH1 := Aside0.mk hH1
  clear h hr0 hr1 hC hH hC1 hH1 hlen hlen1 hclone hc0 hc1
  go_enter Try.func13, Try.ntmps13
  go_upto_region 2 with (first
    | (go_at_call 25; refine HCA.out.mono ?_; rintro e w2 ⟨v, rfl, ho, hb⟩; obtain ⟨Av, cv, ev⟩ := Kd.R_slice ho; subst ev; rw [List.length_map, List.length_range] at ho; rw [List.length_map, List.length_range]; have HO := Aside0.mk ho; have HB2 := Aside0.mk hb; clear ho hb HCA)
    | (go_at_call 25; refine (HCB.out _ HB2.out).mono ?_; rintro e w3 ⟨v, rfl, ho, hb⟩; obtain ⟨Au, cu, eu⟩ := Kd.R_slice ho; subst eu; rw [List.length_map, List.length_range] at ho; rw [List.length_map, List.length_range]; have HO1 := Aside0.mk ho; have HB3 := Aside0.mk hb; clear ho hb HCB))
  have hBw3 : Below w.heap.size w w3 := HB2.out.trans (HB3.out.mono HB2.out.size)
  have hsx := (SB.of_clone HO.out).below HB3.out
  have hsy := SB.of_clone (Kd.R_lower HO1.out HB2.out.size)
  have hxb := Kd.R_base HO.out
  have hxl := Kd.R_lt HO.out
  have hyb := Kd.R_base HO1.out
  have hne : ∀ k k', (Value.slice Av l0.length cv).ownBlock = some k → (Value.slice Au l1.length cu).ownBlock = some k' → k ≠ k' := fun k k' e1 e2 => by
    have := hxl k e1
    have := hyb k' e2
    omega
  have HSX := Aside0.mk hsx
  have HSY := Aside0.mk hsy
  have HNE := Aside0.mk hne
  have HXB := Aside0.mk hxb
  have HYB : Aside0 (∀ k, (Value.slice Au l1.length cu).ownBlock = some k → w.heap.size ≤ k) := ⟨fun k e => Nat.le_trans HB2.out.size (hyb k e)⟩
  have HB := Aside0.mk hBw3
  have HS1 := Aside0.mk (sortBlk_any w l0 Hf Av cv w3 HH.out hBw3 hl0 hsx)
  clear hBw3 hsx hsy hne hxb hxl hyb HO HO1 HB2 HB3
  go_upto_region 3 with (go_at_call 30; refine HS1.out.mono ?_; rintro e w4 ⟨rfl, hs⟩; have HT1 := Aside0.mk hs; clear hs HS1)
  obtain ⟨Z1, wk1, sb1, gr1⟩ := HT1.out
  have hB4 : Below w.heap.size w w4 := below_own HB.out gr1 HXB.out
  have hsy4 : SB w.heap.size l1 Hg (.slice Au l1.length cu) (List.range l1.length) w4 := HSY.out.keep (fun k hk hlt => gr1.block k hlt (fun he => HNE.out k k he.symm hk rfl))
  have HS2 := Aside0.mk (sortBlk_any w l1 Hg Au cu w4 HH1.out hB4 hl1 hsy4)
  have HB4 := Aside0.mk hB4
  have HSB1 := Aside0.mk sb1
  have HWK1 := Aside0.mk wk1
  clear gr1 sb1 wk1 hB4 hsy4 HT1 HSX HSY HB
  go_upto_region 4 with (go_at_call 30; refine HS2.out.mono ?_; rintro e w5 ⟨rfl, hs⟩; have HT2 := Aside0.mk hs; clear hs HS2)
  obtain ⟨Z2, wk2, sb2, gr2⟩ := HT2.out
  have hB5 : Below w.heap.size w w5 := below_own HB4.out gr2 HYB.out
  have sb15 := HSB1.out.keep (W1 := w5) (fun k hk hlt => gr2.block k hlt (fun he => HNE.out k k hk he.symm rfl))
  have hrx := sb15.reads (HH.out.below hB5) (by omega)
  have hry := sb2.reads (HH1.out.below hB5) (by omega)
  have ex := inFull_of HWK1.out HSB1.out.1
  have ey := inFull_of wk2 sb2.1
  have lx : (inFull l0).length = l0.length := by rw [(inFull_ok l0).2.length_eq]
  have ly : (inFull l1).length = l1.length := by rw [(inFull_ok l1).2.length_eq]
  rw [ex] at hrx
  rw [ey] at hry
  have hq := equalFunc_calls Av cv (inFull l0) Au cu (inFull l1) w5 hrx hry
  rw [lx, ly] at hq
  have HQ := Aside0.mk hq
  have HB5 := Aside0.mk hB5
  clear hq hB5 sb15 hrx hry ex ey lx ly wk2 sb2 gr2 HT2 HSB1 HWK1
  go_wp2_with (go_at_call 32; refine HQ.out.mono ?_; rintro e w6 ⟨rfl, hb6⟩; have HB6 := Aside0.mk (HB5.out.trans (hb6.mono HB5.out.size)); clear hb6)
  go_ret
  exact ⟨rfl, HB6.out⟩
end Go.Proofs.Ythpoeljnmdjjiaa.PSrn
end
