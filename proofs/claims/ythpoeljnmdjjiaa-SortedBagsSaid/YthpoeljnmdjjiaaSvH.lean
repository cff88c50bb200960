/-
  Sorting, by hand: slices.CompareFunc, sorted.full; slices.EqualFunc over sorted.Bag's closure.
-/
import Derived.Test.YthpoeljnmdjjiaaSvF
import Derived.Outline
namespace Go.Proofs.Ythpoeljnmdjjiaa.PSrn
open Go.RowKit Go.Proofs.Ythpoeljnmdjjiaa.Hand Go.Proofs.Ythpoeljnmdjjiaa.Srt Go.Proofs.YthpoeljnmdjjiaaW.PrintWords Go.Proofs.YthpoeljnmdjjiaaW.PrintLast Go.Proofs.YthpoeljnmdjjiaaW.PrintMore
set_option linter.unusedVariables false
set_option linter.unusedSimpArgs false

theorem rd28 (x : List S28) (i : Nat) (h : i < x.length) : rd_T28 x (i : Int) = x[i] := by
  unfold rd_T28; rw [List.getD_eq_getElem?_getD, Int.toNat_natCast, List.getElem?_eq_getElem h]; rfl
theorem fullRow_end (a b : List S28) (i : Nat) (h1 : i = a.length) (h2 : i ≤ b.length) : fullRow (a.drop i) (b.drop i) = if a.length < b.length then -1 else 0 := by
  subst h1
  rw [List.drop_eq_nil_of_le (Nat.le_refl _)]
  by_cases h : a.length < b.length
  · rw [if_pos h, List.drop_eq_getElem_cons h]; rfl
  · rw [if_neg h, List.drop_eq_nil_of_le (by omega)]; rfl

set_option maxHeartbeats 4000000 in
set_option maxRecDepth 100000 in
theorem compareFunc_calls (A : Option Addr) (ca : Nat) (a : List S28) (B : Option Addr) (cb : Nat) (b : List S28) (w : World) (ha : Kd.C k28 w A a.length a) (hb : Kd.C k28 w B b.length b) :
    Calls Try.prog 48 #[.slice A a.length ca, .slice B b.length cb, .func (.func 49) #[] #[]] w fun e w' => e = .returned (.int .i64 (fullRow a b)) ∧ Below w.heap.size w w' ∧ w.drawn ≤ w'.drawn := by
  have hu28 := Try.underlying28
  have hla := ha.2.1
  have hlb := hb.2.1
  have HA := Aside0.mk ha
  have HBB := Aside0.mk hb
  have HB := Aside0.mk (Below.refl w.heap.size w)
  have HD := Aside0.mk (Nat.le_refl w.drawn)
  have H0 : Aside0 (fullRow a b = fullRow (a.drop 0) (b.drop 0)) := ⟨by rw [List.drop_zero, List.drop_zero]⟩
  clear ha hb
  go_enter Try.func48, Try.ntmps48
  go_wp2
  go_loopw [13] (fun v13 wr => ∃ i : Nat, v13 = .int .i64 i ∧ i ≤ a.length ∧ i ≤ b.length ∧ Aside0 (fullRow a b = fullRow (a.drop i) (b.drop i)) ∧ Aside0 (Below w.heap.size w wr) ∧ Aside0 (w.drawn ≤ wr.drawn)) (fun v13 _ => a.length - (intOf v13).toNat)
  case atStart => exact ⟨0, rfl, Nat.zero_le _, Nat.zero_le _, H0, HB, HD⟩
  case round =>
    clear H0 HB HD
    obtain ⟨i, rfl, hi, hi2, HF, HB, HD⟩ := hrel
    by_cases hlt : i < a.length
    · have q2 : decide ((i : Int) < (a.length : Int)) = true := decide_eq_true (by omega)
      have q3 : decide (i < a.length) = true := decide_eq_true hlt
      have p1 : (0 ≤ (i : Int)) = True := eq_true (by omega)
      have p2 : ((i : Int) < (a.length : Int)) = True := eq_true (by omega)
      have p3 : (i < a.length) = True := eq_true hlt
      obtain ⟨ad, e, hx0, hx1, hx2⟩ := at_T28 (Kd.C_below HA.out HB.out) (i : Int) (by omega) (by omega)
      cases e
      rw [Int.toNat_natCast, rd28 a i hlt] at hx0 hx1 hx2
      by_cases hltb : i < b.length
      · have q4 : decide ((i : Int) ≥ (b.length : Int)) = false := decide_eq_false (by omega)
        have q5 : decide ((b.length : Int) ≤ (i : Int)) = false := decide_eq_false (by omega)
        have q6 : decide (b.length ≤ i) = false := decide_eq_false (by omega)
        have p4 : ((i : Int) < (b.length : Int)) = True := eq_true (by omega)
        have p5 : (i < b.length) = True := eq_true hltb
        obtain ⟨bd, e, hy0, hy1, hy2⟩ := at_T28 (Kd.C_below HBB.out HB.out) (i : Int) (by omega) (by omega)
        cases e
        rw [Int.toNat_natCast, rd28 b i hltb] at hy0 hy1 hy2
        have HF2 := HF.out
        rw [List.drop_eq_getElem_cons hlt, List.drop_eq_getElem_cons hltb] at HF2
        change _ = (if cmpF a[i] b[i] = 0 then fullRow (a.drop (i + 1)) (b.drop (i + 1)) else cmpF a[i] b[i]) at HF2
        have HCALL : Aside0 (∀ w1, Calls Try.prog 49 #[.agg #[.int .i64 a[i].f0, .int .i64 a[i].f1, .string a[i].f2], .agg #[.int .i64 b[i].f0, .int .i64 b[i].f1, .string b[i].f2]] w1 fun e w' => e = .returned (.int .i64 (cmpF a[i] b[i])) ∧ Below w1.heap.size w1 w' ∧ w1.drawn ≤ w'.drawn) := ⟨fun w1 => full1_calls a[i] b[i] w1⟩
        generalize cmpF a[i] b[i] = v at HF2 HCALL
        generalize a[i] = x at hx0 hx1 hx2 HCALL
        generalize b[i] = y at hy0 hy1 hy2 HCALL
        clear HF
        go_upto_region 6 with (fail)
        have hbW : Below wr.heap.size wr (wr.alloc (.cells #[.int .i64 x.f0, .int .i64 x.f1, .string x.f2] 28)) := below_alloc (Below.refl wr.heap.size wr) _
        have HBW1 := Aside0.mk (HB.out.trans (hbW.mono HB.out.size))
        have HDW1 : Aside0 (w.drawn ≤ (wr.alloc (.cells #[.int .i64 x.f0, .int .i64 x.f1, .string x.f2] 28)).drawn) := ⟨HD.out⟩
        have hv0 := (blk_cell (blk_new wr (.cells #[.int .i64 x.f0, .int .i64 x.f1, .string x.f2] 28)) 0).trans rfl
        have hv1 := (blk_cell (blk_new wr (.cells #[.int .i64 x.f0, .int .i64 x.f1, .string x.f2] 28)) 1).trans rfl
        have hv2 := (blk_cell (blk_new wr (.cells #[.int .i64 x.f0, .int .i64 x.f1, .string x.f2] 28)) 2).trans rfl
        have hlt1 : wr.heap.size < (wr.alloc (.cells #[.int .i64 x.f0, .int .i64 x.f1, .string x.f2] 28)).heap.size := blk_lt (blk_new wr _)
        replace hy0 := (hbW.cell (World.block_lt_of_cell? wr _ hy0)).trans hy0
        replace hy1 := (hbW.cell (World.block_lt_of_cell? wr _ hy1)).trans hy1
        replace hy2 := (hbW.cell (World.block_lt_of_cell? wr _ hy2)).trans hy2
        generalize wr.alloc (.cells #[.int .i64 x.f0, .int .i64 x.f1, .string x.f2] 28) = W1 at *
        generalize wr.heap.size = g1 at *
        clear hx0 hx1 hx2
        go_upto_region 7 with (fail)
        have hbW2 : Below W1.heap.size W1 (W1.alloc (.cells #[.int .i64 y.f0, .int .i64 y.f1, .string y.f2] 28)) := below_alloc (Below.refl W1.heap.size W1) _
        have HBW2 := Aside0.mk (HBW1.out.trans (hbW2.mono HBW1.out.size))
        have HDW2 : Aside0 (w.drawn ≤ (W1.alloc (.cells #[.int .i64 y.f0, .int .i64 y.f1, .string y.f2] 28)).drawn) := ⟨HDW1.out⟩
        have hu0 := (blk_cell (blk_new W1 (.cells #[.int .i64 y.f0, .int .i64 y.f1, .string y.f2] 28)) 0).trans rfl
        have hu1 := (blk_cell (blk_new W1 (.cells #[.int .i64 y.f0, .int .i64 y.f1, .string y.f2] 28)) 1).trans rfl
        have hu2 := (blk_cell (blk_new W1 (.cells #[.int .i64 y.f0, .int .i64 y.f1, .string y.f2] 28)) 2).trans rfl
        replace hv0 := (hbW2.cell (p := ⟨g1, 0, none⟩) hlt1).trans hv0
        replace hv1 := (hbW2.cell (p := ⟨g1, 1, none⟩) hlt1).trans hv1
        replace hv2 := (hbW2.cell (p := ⟨g1, 2, none⟩) hlt1).trans hv2
        generalize W1.alloc (.cells #[.int .i64 y.f0, .int .i64 y.f1, .string y.f2] 28) = W2 at *
        generalize W1.heap.size = g2 at *
        clear hy0 hy1 hy2
        by_cases hv : v = 0
        · rw [if_pos hv] at HF2
          have HF3 := Aside0.mk HF2
          have q7 : (v != 0) = false := by rw [hv]; rfl
          clear HF2 hv
          go_wp2_with (go_at_call 49; (with_reducible refine (HCALL.out _).mono ?_); rintro e w4 ⟨rfl, hb4, hd4⟩; have HB4 := Aside0.mk (HBW2.out.trans (hb4.mono HBW2.out.size)); have HD4 := Aside0.mk (Nat.le_trans HDW2.out hd4); clear hb4 hd4 HCALL)
          go_roundw
          case rel => exact ⟨i + 1, by first | rfl | go_num, by omega, by omega, HF3, HB4, HD4⟩
          case measure => simp only [intOf]; omega
        · rw [if_neg hv] at HF2
          have HF3 := Aside0.mk HF2
          have q7 : (v != 0) = true := by rw [bne_iff_ne]; exact hv
          clear HF2 hv
          go_wp2_with (go_at_call 49; (with_reducible refine (HCALL.out _).mono ?_); rintro e w4 ⟨rfl, hb4, hd4⟩; have HB4 := Aside0.mk (HBW2.out.trans (hb4.mono HBW2.out.size)); have HD4 := Aside0.mk (Nat.le_trans HDW2.out hd4); clear hb4 hd4 HCALL)
          go_ret
          exact ⟨by rw [HF3.out]; rfl, HB4.out, HD4.out⟩
      · have q4 : decide ((i : Int) ≥ (b.length : Int)) = true := decide_eq_true (by omega)
        have q5 : decide ((b.length : Int) ≤ (i : Int)) = true := decide_eq_true (by omega)
        have q6 : decide (b.length ≤ i) = true := decide_eq_true (by omega)
        have HF2 := HF.out
        rw [List.drop_eq_getElem_cons hlt, List.drop_eq_nil_of_le (show b.length ≤ i by omega)] at HF2
        have HF3 : Aside0 (fullRow a b = 1) := ⟨HF2⟩
        generalize a[i] = x at hx0 hx1 hx2
        have HBW1 : Aside0 (Below w.heap.size w (wr.alloc (.cells #[.int .i64 x.f0, .int .i64 x.f1, .string x.f2] 28))) := ⟨HB.out.trans ((below_alloc (Below.refl wr.heap.size wr) _).mono HB.out.size)⟩
        clear HF HF2
        go_wp2
        go_ret
        exact ⟨by rw [HF3.out]; rfl, HBW1.out, HD.out⟩
    · have q2 : decide ((i : Int) < (a.length : Int)) = false := decide_eq_false (by omega)
      have q3 : decide (i < a.length) = false := decide_eq_false hlt
      have HF3 : Aside0 (fullRow a b = if a.length < b.length then -1 else 0) := ⟨HF.out.trans (fullRow_end a b i (by omega) hi2)⟩
      clear HF
      by_cases hab : a.length < b.length
      · have q4 : decide ((a.length : Int) < (b.length : Int)) = true := decide_eq_true (by omega)
        have q5 : decide (a.length < b.length) = true := decide_eq_true hab
        rw [if_pos hab] at HF3
        go_wp2
        go_ret
        exact ⟨by rw [HF3.out]; rfl, HB.out, HD.out⟩
      · have q4 : decide ((a.length : Int) < (b.length : Int)) = false := decide_eq_false (by omega)
        have q5 : decide (a.length < b.length) = false := decide_eq_false hab
        rw [if_neg hab] at HF3
        go_wp2
        go_ret
        exact ⟨by rw [HF3.out]; rfl, HB.out, HD.out⟩

set_option maxRecDepth 100000 in
theorem full_calls2 (A : Option Addr) (ca : Nat) (a : List S28) (B : Option Addr) (cb : Nat) (b : List S28) (w : World) (ha : Kd.C k28 w A a.length a) (hb : Kd.C k28 w B b.length b) :
    Calls Try.prog 31 #[.slice A a.length ca, .slice B b.length cb] w fun e w' => e = .returned (.int .i64 (fullRow a b)) ∧ Below w.heap.size w w' ∧ w.drawn ≤ w'.drawn := by
  have HC := Aside0.mk (compareFunc_calls A ca a B cb b w ha hb)
  clear ha hb
  go_enter Try.func31, Try.ntmps31
  go_wp2_with (go_at_call 48; refine HC.out.mono ?_; rintro e w4 ⟨rfl, hb4⟩; have HB4 := Aside0.mk hb4; clear hb4)
  go_ret
  exact ⟨rfl, HB4.out.1, HB4.out.2⟩
theorem full_calls (A : Option Addr) (ca : Nat) (a : List S28) (B : Option Addr) (cb : Nat) (b : List S28) (w : World) (ha : Kd.C k28 w A a.length a) (hb : Kd.C k28 w B b.length b) :
    Calls Try.prog 31 #[.slice A a.length ca, .slice B b.length cb] w fun e w' => e = .returned (.int .i64 (fullRow a b)) ∧ Below w.heap.size w w' :=
  (full_calls2 A ca a B cb b w ha hb).mono fun _ _ ⟨h1, h2, _⟩ => ⟨h1, h2⟩
end Go.Proofs.Ythpoeljnmdjjiaa.PSrn
