/-
  Several texts in one (by wip/gprint/mergeh.py), in their order.
-/
import Derived.Test.YthpoeljnmdjjiaaSvX
import Derived.Test.YthpoeljnmdjjiaaSvY
import Derived.Test.YthpoeljnmdjjiaaPSrnx14
import Derived.Outline
section
/-
  Rows that may be, by hand: the kinds that are none (slices.ContainsFunc over sorted.Check's closure).
-/
namespace Go.Proofs.Ythpoeljnmdjjiaa.PSrn
open Go.RowKit Go.Proofs.Ythpoeljnmdjjiaa.Hand Go.Proofs.Ythpoeljnmdjjiaa.Srt Go.Proofs.YthpoeljnmdjjiaaW.PrintWords Go.Proofs.YthpoeljnmdjjiaaW.PrintLast Go.Proofs.YthpoeljnmdjjiaaW.PrintMore
set_option linter.unusedVariables false
set_option linter.unusedSimpArgs false

/-- The first place at which p holds, from i on; -1: there is none. -/
def firstAt {α : Type} (p : α → Bool) : List α → Int → Int
  | [], _ => -1
  | v :: t, i => if p v = true then i else firstAt p t (i + 1)
theorem firstAt_cons {α : Type} (p : α → Bool) (v : α) (t : List α) (i : Int) : firstAt p (v :: t) i = if p v = true then i else firstAt p t (i + 1) := rfl
theorem firstAt_any {α : Type} (p : α → Bool) : ∀ (l : List α) (i : Int), 0 ≤ i → decide (0 ≤ firstAt p l i) = l.any p
  | [], i, _ => rfl
  | v :: t, i, h => by
    rw [firstAt_cons, List.any_cons]
    by_cases c : p v = true
    · rw [if_pos c, c, decide_eq_true h]; rfl
    · rw [if_neg c, firstAt_any p t (i + 1) (by omega)]
      have : p v = false := by simpa using c
      rw [this]; rfl
/-- A kind that is none. -/
def oddK (k : Int) : Bool := decide (k < 1) || decide (k > 3)
theorem odd_calls (k : Int) (w : World) : Calls Try.prog 38 #[.int .i64 k] w fun e w' => e = .returned (.bool (oddK k)) ∧ w' = w := by
  unfold oddK
  by_cases h1 : k < 1
  · have q1 : decide (k < 1) = true := decide_eq_true h1
    rw [q1]
    go_enter Try.func38, Try.ntmps38
    go_wp2
    go_ret
    exact ⟨rfl, rfl⟩
  · have q1 : decide (k < 1) = false := decide_eq_false h1
    rw [q1, Bool.false_or]
    by_cases h2 : k > 3
    · have q2 : decide (k > 3) = true := decide_eq_true h2
      rw [q2]
      go_enter Try.func38, Try.ntmps38
      go_wp2
      go_ret
      exact ⟨rfl, rfl⟩
    · have q2 : decide (k > 3) = false := decide_eq_false h2
      rw [q2]
      go_enter Try.func38, Try.ntmps38
      go_wp2
      go_ret
      exact ⟨rfl, rfl⟩

set_option maxHeartbeats 2000000 in
set_option maxRecDepth 100000 in
theorem idxI_calls (A : Option Addr) (c : Nat) (l : List Int) (w : World) (hr : Kd.C (Kd.int .i64) w A l.length l) :
    Calls Try.prog 54 #[.slice A l.length c, .func (.func 38) #[] #[]] w fun e w' => e = .returned (.int .i64 (firstAt oddK l 0)) ∧ w' = w := by
  have hl := hr.2.1
  have HR := Aside0.mk hr
  have H0 : Aside0 (firstAt oddK l 0 = firstAt oddK (l.drop 0) ((0 : Nat) : Int)) := ⟨by rw [List.drop_zero]; rfl⟩
  clear hr
  go_enter Try.func54, Try.ntmps54
  go_wp2
  go_loopw [8] (fun v8 wr => ∃ i : Nat, v8 = .int .i64 i ∧ i ≤ l.length ∧ Aside0 (firstAt oddK l 0 = firstAt oddK (l.drop i) i) ∧ Aside0 (wr = w)) (fun v8 _ => l.length - (intOf v8).toNat)
  case atStart => exact ⟨0, rfl, Nat.zero_le _, H0, ⟨rfl⟩⟩
  case round =>
    clear H0
    obtain ⟨i, rfl, hi, HF, HW⟩ := hrel
    have hw := HW.out
    subst hw
    clear HW
    by_cases hlt : i < l.length
    · obtain ⟨ad, e, hx0⟩ := Kd.at_int HR.out (i : Int) (by omega) (by omega)
      cases e
      rw [Int.toNat_natCast] at hx0
      have hd : l.drop i = rd l (i : Int) :: l.drop (i + 1) := by
        rw [List.drop_eq_getElem_cons hlt]
        congr 1
        unfold rd
        rw [Int.toNat_natCast, List.getD_eq_getElem?_getD, List.getElem?_eq_getElem hlt]; rfl
      have HF2 := HF.out
      rw [hd, firstAt_cons] at HF2
      generalize rd l (i : Int) = x at hx0 HF2
      have HC := Aside0.mk (odd_calls x)
      have p1 : (0 ≤ (i : Int)) = True := eq_true (by omega)
      have q1 : ((i : Int) < (l.length : Int)) = True := eq_true (by omega)
      have q2 : decide ((i : Int) < (l.length : Int)) = true := decide_eq_true (by omega)
      have q3 : decide (i < l.length) = true := decide_eq_true hlt
      clear HF hd
      generalize oddK x = v at HF2 HC
      cases v with
      | true =>
        rw [if_pos rfl] at HF2
        have HF3 := Aside0.mk HF2
        clear HF2
        go_wp2_with (go_at_call 38; (with_reducible refine (HC.out _).mono ?_); rintro e w2 ⟨rfl, rfl⟩)
        go_ret
        exact ⟨by rw [HF3.out]; rfl, rfl⟩
      | false =>
        rw [if_neg (by decide)] at HF2
        have HF3 : Aside0 (firstAt oddK l 0 = firstAt oddK (l.drop (i + 1)) ((i + 1 : Nat) : Int)) := ⟨HF2⟩
        clear HF2
        go_wp2_with (go_at_call 38; (with_reducible refine (HC.out _).mono ?_); rintro e w2 ⟨rfl, rfl⟩)
        go_roundw
        case rel => exact ⟨i + 1, by first | rfl | go_num, by omega, HF3, ⟨by first | rfl | trivial⟩⟩
        case measure => simp only [intOf]; omega
    · have q2 : decide ((i : Int) < (l.length : Int)) = false := decide_eq_false (by omega)
      have q3 : decide (i < l.length) = false := decide_eq_false hlt
      have HF3 : Aside0 (firstAt oddK l 0 = -1) := ⟨by rw [HF.out, List.drop_eq_nil_of_le (by omega)]; rfl⟩
      clear HF
      go_wp2
      go_ret
      exact ⟨by rw [HF3.out]; rfl, rfl⟩
set_option maxRecDepth 100000 in
theorem containsI_calls (A : Option Addr) (c : Nat) (l : List Int) (w : World) (hr : Kd.C (Kd.int .i64) w A l.length l) :
    Calls Try.prog 39 #[.slice A l.length c, .func (.func 38) #[] #[]] w fun e w' => e = .returned (.bool (l.any oddK)) ∧ w' = w := by
  have HC := Aside0.mk (idxI_calls A c l w hr)
  have HA := Aside0.mk (firstAt_any oddK l 0 (Int.le_refl _))
  generalize firstAt oddK l 0 = j at *
  clear hr
  go_enter Try.func39, Try.ntmps39
  go_wp2_with (go_at_call 54; refine HC.out.mono ?_; rintro e w' ⟨rfl, rfl⟩)
  go_ret
  exact ⟨by rw [← HA.out]; rfl, rfl⟩
end Go.Proofs.Ythpoeljnmdjjiaa.PSrn
end
section
/-
  Rows that may be, by hand: one row (sorted.row), all rows (sorted.Check).
-/
namespace Go.Proofs.Ythpoeljnmdjjiaa.PSrn
open Go.RowKit Go.Proofs.Ythpoeljnmdjjiaa.Hand Go.Proofs.Ythpoeljnmdjjiaa.Srt Go.Proofs.YthpoeljnmdjjiaaW.PrintWords Go.Proofs.YthpoeljnmdjjiaaW.PrintLast Go.Proofs.YthpoeljnmdjjiaaW.PrintMore
set_option linter.unusedVariables false
set_option linter.unusedSimpArgs false

def mayV (v : S28) : Bool := valMay v.f0 v.f1 v.f2
theorem empty_bool (s : ByteArray) : (s.toList == ([] : List UInt8)) = decide (s.size = 0) := by
  rw [ByteArray.toList_eq, Bool.eq_iff_iff, beq_iff_eq, decide_eq_true_iff]
  cases s with | mk d => simp [ByteArray.size]
theorem may_f (k i : Int) (s : ByteArray) : val_May.f k i s = some (valMay k i s) := by
  have hc : flt_Clean.f (IntKind.u64.wrap i) = some (cl (u64 i)) := fltClean_f (u64_U i)
  unfold val_May.f valMay
  rw [hc, empty_bool]
  simp only [Option.bind_some]
  by_cases c2 : k = 2
  · subst c2
    rw [if_pos rfl]
    show _ = some (decide (s.size = 0) && decide (cl (u64 i) = u64 i))
    by_cases e : IntKind.u64.wrap i = cl (u64 i)
    · have e2 : cl (u64 i) = u64 i := e.symm
      rw [if_pos e, decide_eq_true e2, Bool.and_true]
    · have e2 : ¬ cl (u64 i) = u64 i := fun q => e q.symm
      rw [if_neg e, decide_eq_false e2, Bool.and_false]
  · rw [if_neg c2]
    by_cases c1 : k = 1
    · subst c1
      rw [if_pos rfl]
      rfl
    · rw [if_neg c1]
      by_cases c3 : k = 3
      · subst c3
        rw [if_pos rfl]
        show _ = some (decide (i = 0) && decide (s.size ≤ 1024))
        by_cases e : i = 0
        · rw [if_pos e, decide_eq_true e, Bool.true_and]
          congr 1
          rw [decide_eq_decide]
          omega
        · rw [if_neg e, decide_eq_false e, Bool.false_and]
      · rw [if_neg c3]
        by_cases c0 : k = 0
        · subst c0
          rw [if_pos rfl, if_pos rfl]
          congr 1
        · rw [if_neg c0, if_neg c0, if_neg c1, if_neg c2, if_neg c3]
set_option maxRecDepth 100000 in
theorem row1_calls (v : S28) (w : World) : Calls Try.prog 56 #[.agg #[.int .i64 v.f0, .int .i64 v.f1, .string v.f2]] w fun e w' => e = .returned (.bool (!(mayV v))) ∧ Below w.heap.size w w' := by
  have hu28 := Try.underlying28
  have HC : Aside0 (∀ w1, Calls Try.prog 57 #[.agg #[.int .i64 v.f0, .int .i64 v.f1, .string v.f2]] w1 fun e w' => e = .returned (.bool (mayV v)) ∧ Below w1.heap.size w1 w') := ⟨fun w1 => val_May.calls _ _ _ _ w1 (may_f _ _ _)⟩
  have HB : Aside0 (Below w.heap.size w (w.alloc (.cells #[.int .i64 v.f0, .int .i64 v.f1, .string v.f2] 28))) := ⟨below_alloc (Below.refl _ _) _⟩
  go_enter Try.func56, Try.ntmps56
  go_wp2_with (go_at_call 57; (with_reducible refine (HC.out _).mono ?_); rintro e w2 ⟨rfl, hb2⟩; have HB2 := Aside0.mk (HB.out.trans (hb2.mono HB.out.size)); clear hb2)
  go_ret
  exact ⟨rfl, HB2.out⟩
set_option maxHeartbeats 2000000 in
set_option maxRecDepth 100000 in
theorem idxV_calls (A : Option Addr) (c : Nat) (l : List S28) (w : World) (hr : Kd.C k28 w A l.length l) :
    Calls Try.prog 75 #[.slice A l.length c, .func (.func 56) #[] #[]] w fun e w' => e = .returned (.int .i64 (firstAt (fun v => !(mayV v)) l 0)) ∧ Below w.heap.size w w' := by
  have hu28 := Try.underlying28
  have hl := hr.2.1
  have HR := Aside0.mk hr
  have HB := Aside0.mk (Below.refl w.heap.size w)
  have H0 : Aside0 (firstAt (fun v => !(mayV v)) l 0 = firstAt (fun v => !(mayV v)) (l.drop 0) ((0 : Nat) : Int)) := ⟨by rw [List.drop_zero]; rfl⟩
  clear hr
  go_enter Try.func75, Try.ntmps75
  go_wp2
  go_loopw [8] (fun v8 wr => ∃ i : Nat, v8 = .int .i64 i ∧ i ≤ l.length ∧ Aside0 (firstAt (fun v => !(mayV v)) l 0 = firstAt (fun v => !(mayV v)) (l.drop i) i) ∧ Aside0 (Below w.heap.size w wr)) (fun v8 _ => l.length - (intOf v8).toNat)
  case atStart => exact ⟨0, rfl, Nat.zero_le _, H0, HB⟩
  case round =>
    clear H0 HB
    obtain ⟨i, rfl, hi, HF, HB⟩ := hrel
    by_cases hlt : i < l.length
    · obtain ⟨ad, e, hx0, hx1, hx2⟩ := at_T28 (Kd.C_below HR.out HB.out) (i : Int) (by omega) (by omega)
      cases e
      rw [Int.toNat_natCast, rd28 l i hlt] at hx0 hx1 hx2
      have HF2 := HF.out
      rw [List.drop_eq_getElem_cons hlt, firstAt_cons] at HF2
      generalize l[i] = x at hx0 hx1 hx2 HF2
      have HC := Aside0.mk (row1_calls x)
      have p1 : (0 ≤ (i : Int)) = True := eq_true (by omega)
      have q1 : ((i : Int) < (l.length : Int)) = True := eq_true (by omega)
      have q2 : decide ((i : Int) < (l.length : Int)) = true := decide_eq_true (by omega)
      have q3 : decide (i < l.length) = true := decide_eq_true hlt
      have p3 : (i < l.length) = True := eq_true hlt
      clear HF
      generalize mayV x = v at HF2 HC
      cases v with
      | false =>
        rw [if_pos (by decide)] at HF2
        have HF3 := Aside0.mk HF2
        clear HF2
        go_wp2_with (go_at_call 56; (with_reducible refine (HC.out _).mono ?_); rintro e w2 ⟨rfl, hb2⟩; have HB2 := Aside0.mk (HB.out.trans (hb2.mono HB.out.size)); clear hb2)
        go_ret
        exact ⟨by rw [HF3.out]; rfl, HB2.out⟩
      | true =>
        rw [if_neg (by decide)] at HF2
        have HF3 : Aside0 (firstAt (fun v => !(mayV v)) l 0 = firstAt (fun v => !(mayV v)) (l.drop (i + 1)) ((i + 1 : Nat) : Int)) := ⟨HF2⟩
        clear HF2
        go_wp2_with (go_at_call 56; (with_reducible refine (HC.out _).mono ?_); rintro e w2 ⟨rfl, hb2⟩; have HB2 := Aside0.mk (HB.out.trans (hb2.mono HB.out.size)); clear hb2)
        go_roundw
        case rel => exact ⟨i + 1, by first | rfl | go_num, by omega, HF3, HB2⟩
        case measure => simp only [intOf]; omega
    · have q2 : decide ((i : Int) < (l.length : Int)) = false := decide_eq_false (by omega)
      have q3 : decide (i < l.length) = false := decide_eq_false hlt
      have HF3 : Aside0 (firstAt (fun v => !(mayV v)) l 0 = -1) := ⟨by rw [HF.out, List.drop_eq_nil_of_le (by omega)]; rfl⟩
      clear HF
      go_wp2
      go_ret
      exact ⟨by rw [HF3.out]; rfl, HB.out⟩
set_option maxRecDepth 100000 in
theorem containsV_calls (A : Option Addr) (c : Nat) (l : List S28) (w : World) (hr : Kd.C k28 w A l.length l) :
    Calls Try.prog 55 #[.slice A l.length c, .func (.func 56) #[] #[]] w fun e w' => e = .returned (.bool (l.any fun v => !(mayV v))) ∧ Below w.heap.size w w' := by
  have HC := Aside0.mk (idxV_calls A c l w hr)
  have HA := Aside0.mk (firstAt_any (fun v => !(mayV v)) l 0 (Int.le_refl _))
  generalize firstAt (fun v => !(mayV v)) l 0 = j at *
  clear hr
  go_enter Try.func55, Try.ntmps55
  go_wp2_with (go_at_call 75; refine HC.out.mono ?_; rintro e w' ⟨rfl, hb⟩; have HB := Aside0.mk hb; clear hb)
  go_ret
  exact ⟨by rw [← HA.out]; rfl, HB.out⟩

/-- A value that is of another kind than its column's. -/
def mism : List S28 → List Int → Bool
  | v :: r, k :: ks => (v.f0 != 0 && v.f0 != k) || mism r ks
  | _, _ => false
def rowE (r : List S28) (kinds : List Int) : Int := if r.length ≠ kinds.length then 4 else if (r.any fun v => !(mayV v)) = true then 1 else if mism r kinds = true then 7 else 0
set_option maxHeartbeats 4000000 in
set_option maxRecDepth 100000 in
theorem row_calls (A : Option Addr) (c : Nat) (l : List S28) (A1 : Option Addr) (c1 : Nat) (ks : List Int) (w : World) (hr : Kd.C k28 w A l.length l) (hk : Kd.C (Kd.int .i64) w A1 ks.length ks) :
    Calls Try.prog 40 #[.slice A l.length c, .slice A1 ks.length c1] w fun e w' => e = .returned (.int .i64 (rowE l ks)) ∧ Below w.heap.size w w' := by
  have hu28 := Try.underlying28
  have hl := hr.2.1
  have hlk := hk.2.1
  have HR := Aside0.mk hr
  have HK := Aside0.mk hk
  have HB := Aside0.mk (Below.refl w.heap.size w)
  have HCN := Aside0.mk (containsV_calls A c l w hr)
  clear hr hk
  unfold rowE
  by_cases hlen : l.length ≠ ks.length
  · rw [if_pos hlen]
    have q1 : ((l.length : Int) != (ks.length : Int)) = true := by rw [bne_iff_ne]; omega
    have q2 : (l.length != ks.length) = true := by rw [bne_iff_ne]; exact hlen
    go_enter Try.func40, Try.ntmps40
    go_wp2
    go_ret
    exact ⟨rfl, HB.out⟩
  · rw [if_neg hlen]
    have hle : l.length = ks.length := Decidable.byContradiction hlen
    have q1 : ((l.length : Int) != (ks.length : Int)) = false := by rw [hle]; simp
    have q2 : (l.length != ks.length) = false := by rw [hle]; simp
    have q3 : ((ks.length : Int) != (ks.length : Int)) = false := by simp
    have HLE := Aside0.mk hle
    clear hle hlen
    generalize (l.any fun v => !(mayV v)) = bad at *
    cases bad with
    | true =>
      rw [if_pos rfl]
      go_enter Try.func40, Try.ntmps40
      go_wp2_with (go_at_call 55; refine HCN.out.mono ?_; rintro e w' ⟨rfl, hb⟩; have HB2 := Aside0.mk hb; clear hb)
      go_ret
      exact ⟨rfl, HB2.out⟩
    | false =>
      rw [if_neg (by decide)]
      obtain ⟨R, hR⟩ : ∃ R : Int, (if mism l ks = true then 7 else 0) = R := ⟨_, rfl⟩
      rw [hR]
      have HRS := Aside0.mk hR
      clear hR
      have H0 : Aside0 (mism l ks = mism (l.drop 0) (ks.drop 0)) := ⟨by rw [List.drop_zero, List.drop_zero]⟩
      go_enter Try.func40, Try.ntmps40
      go_wp2_with (go_at_call 55; refine HCN.out.mono ?_; rintro e w' ⟨rfl, hb⟩; have HB2 := Aside0.mk hb; clear hb HCN)
      go_loopw [16] (fun v16 wr => ∃ i : Nat, v16 = .int .i64 i ∧ i ≤ l.length ∧ Aside0 (mism l ks = mism (l.drop i) (ks.drop i)) ∧ Aside0 (Below w.heap.size w wr)) (fun v16 _ => l.length - (intOf v16).toNat)
      case atStart => exact ⟨0, rfl, Nat.zero_le _, H0, HB2⟩
      case round =>
        clear H0 HB HB2
        obtain ⟨i, rfl, hi, HF, HB⟩ := hrel
        by_cases hlt : i < l.length
        · have hltk : i < ks.length := by have := HLE.out; omega
          have p1 : (0 ≤ (i : Int)) = True := eq_true (by omega)
          have p2 : ((i : Int) < (l.length : Int)) = True := eq_true (by omega)
          have p3 : (i < l.length) = True := eq_true hlt
          have p4 : ((i : Int) < (ks.length : Int)) = True := eq_true (by omega)
          have p5 : (i < ks.length) = True := eq_true hltk
          have q4 : decide ((i : Int) < (l.length : Int)) = true := decide_eq_true (by omega)
          have q5 : decide (i < l.length) = true := decide_eq_true hlt
          obtain ⟨ad, e, hx0, hx1, hx2⟩ := at_T28 (Kd.C_below HR.out HB.out) (i : Int) (by omega) (by omega)
          cases e
          rw [Int.toNat_natCast, rd28 l i hlt] at hx0 hx1 hx2
          obtain ⟨bd, e, hy0⟩ := Kd.at_int (Kd.C_below HK.out HB.out) (i : Int) (by omega) (by omega)
          cases e
          rw [Int.toNat_natCast] at hy0
          have hrk : rd ks (i : Int) = ks[i] := by unfold rd; rw [Int.toNat_natCast, List.getD_eq_getElem?_getD, List.getElem?_eq_getElem hltk]; rfl
          rw [hrk] at hy0
          have HF2 := HF.out
          rw [List.drop_eq_getElem_cons hlt, List.drop_eq_getElem_cons hltk] at HF2
          change _ = (((l[i].f0 != 0) && (l[i].f0 != ks[i])) || mism (l.drop (i + 1)) (ks.drop (i + 1))) at HF2
          generalize l[i] = x at hx0 hx1 hx2 HF2
          generalize ks[i] = kd at hy0 HF2
          clear HF hrk
          go_upto_region 8 with (fail)
          have hbW : Below wr.heap.size wr (wr.alloc (.cells #[.int .i64 x.f0, .int .i64 x.f1, .string x.f2] 28)) := below_alloc (Below.refl wr.heap.size wr) _
          have HBW1 := Aside0.mk (HB.out.trans (hbW.mono HB.out.size))
          have hv0 := (blk_cell (blk_new wr (.cells #[.int .i64 x.f0, .int .i64 x.f1, .string x.f2] 28)) 0).trans rfl
          replace hy0 := (hbW.cell (World.block_lt_of_cell? wr _ hy0)).trans hy0
          generalize wr.alloc (.cells #[.int .i64 x.f0, .int .i64 x.f1, .string x.f2] 28) = W1 at *
          generalize wr.heap.size = g1 at *
          clear hx0 hx1 hx2 hbW
          by_cases h0 : x.f0 = 0
          · have r0 : (x.f0 != 0) = false := by rw [h0]; rfl
            rw [r0, Bool.false_and, Bool.false_or] at HF2
            have HF3 := Aside0.mk HF2
            clear HF2
            go_wp2
            repeat (go_quiet (fail); try go_wp2)
            go_roundw
            case rel => exact ⟨i + 1, by first | rfl | go_num, by omega, HF3, ⟨by repeat (first | exact HBW1.out | apply pw_below_drewN | apply below_drew1)⟩⟩
            case measure => simp only [intOf]; omega
          · have r0 : (x.f0 != 0) = true := by rw [bne_iff_ne]; exact h0
            rw [r0, Bool.true_and] at HF2
            by_cases h1 : x.f0 = kd
            · have r1 : (x.f0 != kd) = false := by rw [h1]; simp
              rw [r1, Bool.false_or] at HF2
              have HF3 := Aside0.mk HF2
              clear HF2 h1
              go_wp2
              repeat (go_quiet (fail); try go_wp2)
              go_roundw
              case rel => exact ⟨i + 1, by first | rfl | go_num, by omega, HF3, ⟨by repeat (first | exact HBW1.out | apply pw_below_drewN | apply below_drew1)⟩⟩
              case measure => simp only [intOf]; omega
            · have r1 : (x.f0 != kd) = true := by rw [bne_iff_ne]; exact h1
              rw [r1, Bool.true_or] at HF2
              have HF3 : Aside0 (mism l ks = true) := ⟨HF2⟩
              clear HF2
              go_wp2
              repeat (go_quiet (fail); try go_wp2)
              go_ret
              exact ⟨by rw [← HRS.out, HF3.out]; rfl, by repeat (first | exact HBW1.out | apply pw_below_drewN | apply below_drew1)⟩
        · have q4 : decide ((i : Int) < (l.length : Int)) = false := decide_eq_false (by omega)
          have q5 : decide (i < l.length) = false := decide_eq_false hlt
          have HF3 : Aside0 (mism l ks = false) := ⟨by rw [HF.out, List.drop_eq_nil_of_le (by omega), List.drop_eq_nil_of_le (by have := HLE.out; omega)]; rfl⟩
          clear HF
          go_wp2
          go_ret
          exact ⟨by rw [← HRS.out, HF3.out]; rfl, HB.out⟩

def rowsE (kinds : List Int) : List (List S28) → Int
  | [] => 0
  | r :: t => if rowE r kinds = 0 then rowsE kinds t else rowE r kinds
def checkE (rows : List (List S28)) (kinds : List Int) : Int := if (decide (kinds.length = 0) || (decide (kinds.length > 8) || kinds.any oddK)) = true then 1 else if rows.length > 4096 then 2 else rowsE kinds rows
def checkF (rows : List (List S28)) (kinds : List Int) : Option Int := some (checkE rows kinds)
set_option maxHeartbeats 4000000 in
set_option maxRecDepth 100000 in
theorem check_calls (A0 : Option Addr) (c0 : Nat) (l0 : List (List S28)) (A1 : Option Addr) (c1 : Nat) (l1 : List Int) (r1 : Int) (w : World)
    (hr0 : Kd.C (Kd.slice 28 k28) w A0 l0.length l0) (hc0 : l0.length ≤ c0) (hr1 : Kd.C (Kd.int .i64) w A1 l1.length l1) (hc1 : l1.length ≤ c1) (h : checkF l0 l1 = some r1) :
    Calls Try.prog 17 #[.slice A0 l0.length c0, .slice A1 l1.length c1] w fun e w' => e = .returned (.int .i64 r1) ∧ Below w.heap.size w w' := by
  unfold checkF at h
  have hr := Option.some.inj h
  subst hr
  have hl0 := hr0.2.1
  have hl1 := hr1.2.1
  have HR := Aside0.mk hr0
  have HK := Aside0.mk hr1
  have HB := Aside0.mk (Below.refl w.heap.size w)
  have HCN := Aside0.mk (containsI_calls A1 c1 l1 w hr1)
  clear h hr0 hr1 hc0 hc1
  unfold checkE
  by_cases h0 : l1.length = 0
  · rw [if_pos (by rw [decide_eq_true h0]; rfl)]
    have q1 : ((l1.length : Int) == 0) = true := by rw [h0]; rfl
    have q2 : (l1.length == 0) = true := by rw [h0]; rfl
    have q3 : decide (l1.length = 0) = true := decide_eq_true h0
    go_enter Try.func17, Try.ntmps17
    go_wp2
    go_ret
    exact ⟨rfl, HB.out⟩
  · have q1 : ((l1.length : Int) == 0) = false := by rw [beq_eq_false_iff_ne]; omega
    have q2 : (l1.length == 0) = false := by rw [beq_eq_false_iff_ne]; exact h0
    rw [decide_eq_false h0, Bool.false_or]
    by_cases h8 : l1.length > 8
    · rw [if_pos (by rw [decide_eq_true h8]; rfl)]
      have q3 : decide ((l1.length : Int) > 8) = true := decide_eq_true (by omega)
      have q4 : decide (8 < l1.length) = true := decide_eq_true h8
      go_enter Try.func17, Try.ntmps17
      go_wp2
      go_ret
      exact ⟨rfl, HB.out⟩
    · rw [decide_eq_false h8, Bool.false_or]
      have q3 : decide ((l1.length : Int) > 8) = false := decide_eq_false (by omega)
      have q4 : decide (8 < l1.length) = false := decide_eq_false h8
      generalize l1.any oddK = odd at *
      cases odd with
      | true =>
        rw [if_pos rfl]
        go_enter Try.func17, Try.ntmps17
        go_wp2_with (go_at_call 39; refine HCN.out.mono ?_; rintro e w' ⟨rfl, hw⟩; have hw2 := hw.symm; clear hw; subst hw2)
        go_ret
        exact ⟨rfl, HB.out⟩
      | false =>
        rw [if_neg (by decide)]
        by_cases h4 : l0.length > 4096
        · rw [if_pos h4]
          have q5 : decide ((l0.length : Int) > 4096) = true := decide_eq_true (by omega)
          have q6 : decide (4096 < l0.length) = true := decide_eq_true h4
          go_enter Try.func17, Try.ntmps17
          go_wp2_with (go_at_call 39; refine HCN.out.mono ?_; rintro e w' ⟨rfl, hw⟩; have hw2 := hw.symm; clear hw; subst hw2)
          go_ret
          exact ⟨rfl, HB.out⟩
        · rw [if_neg h4]
          have q5 : decide ((l0.length : Int) > 4096) = false := decide_eq_false (by omega)
          have q6 : decide (4096 < l0.length) = false := decide_eq_false h4
          have H0 : Aside0 (rowsE l1 l0 = rowsE l1 (l0.drop 0)) := ⟨by rw [List.drop_zero]⟩
          go_enter Try.func17, Try.ntmps17
          go_wp2_with (go_at_call 39; refine HCN.out.mono ?_; rintro e w' ⟨rfl, hw⟩; have hw2 := hw.symm; clear hw; subst hw2)
          go_loopw [29] (fun v29 wr => ∃ i : Nat, v29 = .int .i64 i ∧ i ≤ l0.length ∧ Aside0 (rowsE l1 l0 = rowsE l1 (l0.drop i)) ∧ Aside0 (Below w.heap.size w wr)) (fun v29 _ => l0.length - (intOf v29).toNat)
          case atStart => exact ⟨0, rfl, Nat.zero_le _, H0, HB⟩
          case round =>
            clear H0 HB HCN
            obtain ⟨i, rfl, hi, HF, HB⟩ := hrel
            by_cases hlt : i < l0.length
            · have p1 : (0 ≤ (i : Int)) = True := eq_true (by omega)
              have p2 : ((i : Int) < (l0.length : Int)) = True := eq_true (by omega)
              have p3 : (i < l0.length) = True := eq_true hlt
              have q7 : decide ((i : Int) < (l0.length : Int)) = true := decide_eq_true (by omega)
              have q8 : decide (i < l0.length) = true := decide_eq_true hlt
              obtain ⟨ad, X1, X3, e, hx0, hcx, hCx⟩ := at_L3 (Kd.C_below HR.out HB.out) (i : Int) (by omega) (by omega)
              cases e
              rw [Int.toNat_natCast, rdL3 l0 i hlt] at hx0
              rw [rdL3 l0 i hlt] at hcx hCx
              have HF2 := HF.out
              rw [List.drop_eq_getElem_cons hlt] at HF2
              change _ = (if rowE l0[i] l1 = 0 then rowsE l1 (l0.drop (i + 1)) else rowE l0[i] l1) at HF2
              have HC := Aside0.mk (row_calls X1 X3 l0[i] A1 c1 l1 wr hCx (Kd.C_below HK.out HB.out))
              clear hcx hCx HF
              generalize rowE l0[i] l1 = v at HF2 HC
              generalize l0[i] = x at hx0 HC
              by_cases hv : v = 0
              · rw [if_pos hv] at HF2
                have HF3 := Aside0.mk HF2
                have r0 : (v != 0) = false := by rw [hv]; rfl
                clear HF2 hv
                go_wp2_with (go_at_call 40; (with_reducible refine HC.out.mono ?_); rintro e w4 ⟨rfl, hb4⟩; have HB4 := Aside0.mk (HB.out.trans (hb4.mono HB.out.size)); clear hb4 HC)
                go_roundw
                case rel => exact ⟨i + 1, by first | rfl | go_num, by omega, HF3, HB4⟩
                case measure => simp only [intOf]; omega
              · rw [if_neg hv] at HF2
                have HF3 := Aside0.mk HF2
                have r0 : (v != 0) = true := by rw [bne_iff_ne]; exact hv
                clear HF2 hv
                go_wp2_with (go_at_call 40; (with_reducible refine HC.out.mono ?_); rintro e w4 ⟨rfl, hb4⟩; have HB4 := Aside0.mk (HB.out.trans (hb4.mono HB.out.size)); clear hb4 HC)
                go_ret
                exact ⟨by rw [HF3.out]; rfl, HB4.out⟩
            · have q7 : decide ((i : Int) < (l0.length : Int)) = false := decide_eq_false (by omega)
              have q8 : decide (i < l0.length) = false := decide_eq_false hlt
              have HF3 : Aside0 (rowsE l1 l0 = 0) := ⟨by rw [HF.out, List.drop_eq_nil_of_le (by omega)]; rfl⟩
              clear HF
              go_wp2
              go_ret
              exact ⟨by rw [HF3.out]; rfl, HB.out⟩
end Go.Proofs.Ythpoeljnmdjjiaa.PSrn
end
