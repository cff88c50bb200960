/-
  Sorting, by hand: slices.EqualFunc over sorted.Bag's closure.
-/
import Derived.Test.YthpoeljnmdjjiaaSvH
import Derived.Outline
namespace Go.Proofs.Ythpoeljnmdjjiaa.PSrn
open Go.RowKit Go.Proofs.Ythpoeljnmdjjiaa.Hand Go.Proofs.Ythpoeljnmdjjiaa.Srt Go.Proofs.YthpoeljnmdjjiaaW.PrintWords Go.Proofs.YthpoeljnmdjjiaaW.PrintLast Go.Proofs.YthpoeljnmdjjiaaW.PrintMore
set_option linter.unusedVariables false
set_option linter.unusedSimpArgs false

def eqRow : List S28 → List S28 → Bool
  | [], [] => true
  | x :: a, y :: b => eqV x y && eqRow a b
  | _, _ => false
theorem eqRow_len : ∀ a b, eqRow a b = true → a.length = b.length
  | [], [], _ => rfl
  | [], _ :: _, h => by simp [eqRow] at h
  | _ :: _, [], h => by simp [eqRow] at h
  | x :: a, y :: b, h => by
    simp only [eqRow, Bool.and_eq_true] at h
    rw [List.length_cons, List.length_cons, eqRow_len a b h.2]
theorem neq_f (x y : S28) : (!(x.f0 == y.f0) || (!(x.f1 == y.f1) || !(x.f2.toList == y.f2.toList))) = !(eqV x y) := by
  unfold eqV
  cases (x.f0 == y.f0) <;> cases (x.f1 == y.f1) <;> cases (x.f2.toList == y.f2.toList) <;> rfl
theorem equal_l (x0 x1 : List S28) (hl : x0.length = x1.length) (h0 : x0.length ≤ 9223372036854775807) : ∀ (d k i : Nat), i + d = x0.length → d < k →
    api_Val.l0 k x0 x1 (x0.length : Int) (i : Int) = some (eqRow (x0.drop i) (x1.drop i)) := by
  intro d
  induction d with
  | zero =>
    intro k i hi hk
    obtain ⟨k, rfl⟩ : ∃ m, k = m + 1 := ⟨k - 1, by omega⟩
    simp only [api_Val.l0]
    rw [if_neg (by omega), List.drop_eq_nil_of_le (show x0.length ≤ i by omega), List.drop_eq_nil_of_le (show x1.length ≤ i by omega)]
    rfl
  | succ d ih =>
    intro k i hi hk
    obtain ⟨k, rfl⟩ : ∃ m, k = m + 1 := ⟨k - 1, by omega⟩
    have g0 : i < x0.length := by omega
    have g1 : i < x1.length := by omega
    simp only [api_Val.l0]
    rw [if_pos (by omega), if_pos (by omega), if_pos (by omega), if_pos (by omega), neq_f, rd28 _ _ g0, rd28 _ _ g1]
    rw [List.drop_eq_getElem_cons g0, List.drop_eq_getElem_cons g1]
    have hw : wrap64 ((i : Int) + 1) = ((i + 1 : Nat) : Int) := by unfold wrap64; omega
    unfold eqRow
    cases he : eqV x0[i] x1[i]
    · rfl
    · simp only [Bool.not_true, Bool.true_and, Bool.false_eq_true, if_false]
      rw [hw]
      exact ih k (i + 1) (by omega) (by omega)
theorem equal_f (k : Nat) (x0 x1 : List S28) (h0 : x0.length ≤ 9223372036854775807) (hk : x0.length < k) : api_Val.f k x0 x1 = some (eqRow x0 x1) := by
  unfold api_Val.f
  by_cases hl : x0.length = x1.length
  · rw [if_pos (by omega)]
    have := equal_l x0 x1 hl h0 x0.length k 0 (by omega) (by omega)
    simpa using this
  · rw [if_neg (by omega)]
    congr 1
    symm
    apply Bool.eq_false_iff.2
    intro h
    exact hl (eqRow_len _ _ h)
set_option maxRecDepth 100000 in
theorem bag1_calls (A : Option Addr) (ca : Nat) (a : List S28) (B : Option Addr) (cb : Nat) (b : List S28) (w : World) (ha : Kd.C k28 w A a.length a) (hca : a.length ≤ ca) (hb : Kd.C k28 w B b.length b) (hcb : b.length ≤ cb) :
    Calls Try.prog 33 #[.slice A a.length ca, .slice B b.length cb] w fun e w' => e = .returned (.bool (eqRow a b)) ∧ Below w.heap.size w w' := by
  have HC := Aside0.mk (api_Val.calls (a.length + 1) A ca a B cb b _ w ha hca hb hcb (equal_f _ a b ha.2.1 (by omega)))
  have HB := Aside0.mk (Below.refl w.heap.size w)
  clear ha hca hb hcb
  go_enter Try.func33, Try.ntmps33
  go_wp2_with (go_at_call 34; refine HC.out.mono ?_; rintro e w4 ⟨rfl, hd⟩; obtain ⟨m, rfl⟩ := hd.out; have HB4 := Aside0.mk (pw_below_drewN HB.out m); clear hd)
  go_ret
  exact ⟨rfl, HB4.out⟩
/-- Two rows of rows are the same. -/
def eqRows : List (List S28) → List (List S28) → Bool
  | [], [] => true
  | x :: a, y :: b => eqRow x y && eqRows a b
  | _, _ => false
theorem eqRows_len : ∀ a b, eqRows a b = true → a.length = b.length
  | [], [], _ => rfl
  | [], _ :: _, h => by simp [eqRows] at h
  | _ :: _, [], h => by simp [eqRows] at h
  | x :: a, y :: b, h => by
    simp only [eqRows, Bool.and_eq_true] at h
    rw [List.length_cons, List.length_cons, eqRows_len a b h.2]
theorem rdL3 (x : List (List S28)) (i : Nat) (h : i < x.length) : rd_L3 x (i : Int) = x[i] := by
  unfold rd_L3; rw [List.getD_eq_getElem?_getD, Int.toNat_natCast, List.getElem?_eq_getElem h]; rfl

set_option maxHeartbeats 4000000 in
set_option maxRecDepth 100000 in
theorem equalFunc_calls (A : Option Addr) (ca : Nat) (a : List (List S28)) (B : Option Addr) (cb : Nat) (b : List (List S28)) (w : World) (ha : Kd.C (Kd.slice 28 k28) w A a.length a) (hb : Kd.C (Kd.slice 28 k28) w B b.length b) :
    Calls Try.prog 32 #[.slice A a.length ca, .slice B b.length cb, .func (.func 33) #[] #[]] w fun e w' => e = .returned (.bool (eqRows a b)) ∧ Below w.heap.size w w' := by
  have hla := ha.2.1
  have hlb := hb.2.1
  have HA := Aside0.mk ha
  have HBB := Aside0.mk hb
  have HB := Aside0.mk (Below.refl w.heap.size w)
  clear ha hb
  by_cases hab : a.length = b.length
  · have q1 : ((a.length : Int) != (b.length : Int)) = false := by rw [hab]; simp
    have q0 : (a.length != b.length) = false := by rw [hab]; simp
    have q00 : ((b.length : Int) != (b.length : Int)) = false := by simp
    have H0 : Aside0 (eqRows a b = eqRows (a.drop 0) (b.drop 0)) := ⟨by rw [List.drop_zero, List.drop_zero]⟩
    have HAB := Aside0.mk hab
    clear hab
    go_enter Try.func32, Try.ntmps32
    go_wp2
    go_loopw [17] (fun v17 wr => ∃ i : Nat, v17 = .int .i64 i ∧ i ≤ a.length ∧ Aside0 (eqRows a b = eqRows (a.drop i) (b.drop i)) ∧ Aside0 (Below w.heap.size w wr)) (fun v17 _ => a.length - (intOf v17).toNat)
    case atStart => exact ⟨0, rfl, Nat.zero_le _, H0, HB⟩
    case round =>
      clear H0 HB
      obtain ⟨i, rfl, hi, HF, HB⟩ := hrel
      by_cases hlt : i < a.length
      · have q2 : decide ((i : Int) < (a.length : Int)) = true := decide_eq_true (by omega)
        have q3 : decide (i < a.length) = true := decide_eq_true hlt
        have p1 : (0 ≤ (i : Int)) = True := eq_true (by omega)
        have p2 : ((i : Int) < (a.length : Int)) = True := eq_true (by omega)
        have p3 : (i < a.length) = True := eq_true hlt
        have hltb : i < b.length := by have := HAB.out; omega
        have p4 : ((i : Int) < (b.length : Int)) = True := eq_true (by omega)
        have p5 : (i < b.length) = True := eq_true hltb
        obtain ⟨ad, X1, X3, e, hx0, hcx, hCx⟩ := at_L3 (Kd.C_below HA.out HB.out) (i : Int) (by omega) (by omega)
        cases e
        obtain ⟨bd, Y1, Y3, e, hy0, hcy, hCy⟩ := at_L3 (Kd.C_below HBB.out HB.out) (i : Int) (by omega) (by omega)
        cases e
        rw [Int.toNat_natCast, rdL3 a i hlt] at hx0
        rw [Int.toNat_natCast, rdL3 b i hltb] at hy0
        rw [rdL3 a i hlt] at hcx hCx
        rw [rdL3 b i hltb] at hcy hCy
        have HF2 := HF.out
        rw [List.drop_eq_getElem_cons hlt, List.drop_eq_getElem_cons hltb] at HF2
        change _ = (eqRow a[i] b[i] && eqRows (a.drop (i + 1)) (b.drop (i + 1))) at HF2
        have HCALL := Aside0.mk (bag1_calls X1 X3 a[i] Y1 Y3 b[i] wr hCx hcx hCy hcy)
        clear hcx hCx hcy hCy
        generalize eqRow a[i] b[i] = v at HF2 HCALL
        generalize a[i] = x at hx0 HCALL
        generalize b[i] = y at hy0 HCALL
        clear HF
        cases v with
        | true =>
          rw [Bool.true_and] at HF2
          have HF3 := Aside0.mk HF2
          clear HF2
          go_wp2_with (go_at_call 33; (with_reducible refine HCALL.out.mono ?_); rintro e w4 ⟨rfl, hb4⟩; have HB4 := Aside0.mk (HB.out.trans (hb4.mono HB.out.size)); clear hb4 HCALL)
          go_roundw
          case rel => exact ⟨i + 1, by first | rfl | go_num, by omega, HF3, HB4⟩
          case measure => simp only [intOf]; omega
        | false =>
          rw [Bool.false_and] at HF2
          have HF3 := Aside0.mk HF2
          clear HF2
          go_wp2_with (go_at_call 33; (with_reducible refine HCALL.out.mono ?_); rintro e w4 ⟨rfl, hb4⟩; have HB4 := Aside0.mk (HB.out.trans (hb4.mono HB.out.size)); clear hb4 HCALL)
          go_ret
          exact ⟨by rw [HF3.out]; rfl, HB4.out⟩
      · have q2 : decide ((i : Int) < (a.length : Int)) = false := decide_eq_false (by omega)
        have q3 : decide (i < a.length) = false := decide_eq_false hlt
        have HF3 : Aside0 (eqRows a b = true) := ⟨by rw [HF.out, List.drop_eq_nil_of_le (by omega), List.drop_eq_nil_of_le (by have := HAB.out; omega)]; rfl⟩
        clear HF
        go_wp2
        go_ret
        exact ⟨by rw [HF3.out]; rfl, HB.out⟩
  · have q1 : ((a.length : Int) != (b.length : Int)) = true := by rw [bne_iff_ne]; omega
    have q0 : (a.length != b.length) = true := by rw [bne_iff_ne]; omega
    have HF3 : Aside0 (eqRows a b = false) := ⟨Bool.eq_false_iff.2 (fun h => hab (eqRows_len _ _ h))⟩
    go_enter Try.func32, Try.ntmps32
    go_wp2
    go_ret
    exact ⟨by rw [HF3.out]; rfl, HB.out⟩
end Go.Proofs.Ythpoeljnmdjjiaa.PSrn
