/-
  Sorting, by hand: the comparison of rows by columns (sorted.order's closure).
-/
import Derived.Test.YthpoeljnmdjjiaaStH
import Derived.Test.YthpoeljnmdjjiaaHOrd
import Derived.Test.YthpoeljnmdjjiaaPSrnx6
import Derived.Test.YthpoeljnmdjjiaaPSrnx8
namespace Go.Proofs.Ythpoeljnmdjjiaa.PSrn
open Go.RowKit Go.Proofs.Ythpoeljnmdjjiaa.Hand Go.Proofs.Ythpoeljnmdjjiaa.Srt Go.Proofs.YthpoeljnmdjjiaaW.PrintWords Go.Proofs.YthpoeljnmdjjiaaW.PrintLast Go.Proofs.YthpoeljnmdjjiaaW.PrintMore
set_option linter.unusedVariables false
set_option linter.unusedSimpArgs false

/-! ## plain -/
def cmpV (x y : S28) : Int := valCmp x.f0 x.f1 x.f2 y.f0 y.f1 y.f2
def zV : S28 := ⟨0, 0, ⟨#[]⟩⟩
/-- A row's value of a column. -/
def atV (r : List S28) (c : Int) : S28 := if 0 ≤ c ∧ c < (r.length : Int) then rd_T28 r c else zV
/-- The order of two rows by some columns. -/
def cmpRow (a b : List S28) : List Int → Int
  | [] => 0
  | c :: t => if cmpV (atV a c) (atV b c) = 0 then cmpRow a b t else cmpV (atV a c) (atV b c)
theorem cmpV_anti (x y : S28) : cmpV y x = - cmpV x y := valCmp_anti _ _ _ _ _ _
theorem cmpV_trans {x y z : S28} (h1 : cmpV x y ≤ 0) (h2 : cmpV y z ≤ 0) : cmpV x z ≤ 0 := valCmp_trans h1 h2
theorem cmpV_zero_trans {x y z : S28} (h1 : cmpV x y = 0) : cmpV x z = cmpV y z := by
  have a1 := cmpV_anti x y
  have r1 := valCmp_range x.f0 x.f1 x.f2 z.f0 z.f1 z.f2
  have r2 := valCmp_range y.f0 y.f1 y.f2 z.f0 z.f1 z.f2
  change cmpV x z = -1 ∨ cmpV x z = 0 ∨ cmpV x z = 1 at r1
  change cmpV y z = -1 ∨ cmpV y z = 0 ∨ cmpV y z = 1 at r2
  have b1 := cmpV_anti x z
  have b2 := cmpV_anti y z
  have t1 : cmpV y z ≤ 0 → cmpV x z ≤ 0 := fun h => cmpV_trans (by omega) h
  have t2 : cmpV x z ≤ 0 → cmpV y z ≤ 0 := fun h => cmpV_trans (x := y) (y := x) (by omega) h
  have t3 : cmpV z x ≤ 0 → cmpV z y ≤ 0 := fun h => cmpV_trans h (by omega)
  have t4 : cmpV z y ≤ 0 → cmpV z x ≤ 0 := fun h => cmpV_trans h (by omega)
  omega
theorem cmpRow_anti (a b : List S28) : ∀ key, cmpRow b a key = - cmpRow a b key
  | [] => rfl
  | c :: t => by
    have h := cmpV_anti (atV a c) (atV b c)
    unfold cmpRow
    by_cases h0 : cmpV (atV a c) (atV b c) = 0
    · rw [if_pos h0, if_pos (by omega), cmpRow_anti a b t]
    · rw [if_neg h0, if_neg (by omega), h]
theorem cmpRow_trans (a b d : List S28) : ∀ key, cmpRow a b key ≤ 0 → cmpRow b d key ≤ 0 → cmpRow a d key ≤ 0
  | [] => fun _ _ => Int.le_refl _
  | c :: t => fun h1 h2 => by
    have ih := cmpRow_trans a b d t
    unfold cmpRow at h1 h2 ⊢
    have ab := cmpV_anti (atV a c) (atV b c)
    have bd := cmpV_anti (atV b c) (atV d c)
    by_cases h0 : cmpV (atV a c) (atV b c) = 0
    · rw [if_pos h0] at h1
      have e := cmpV_zero_trans (z := atV d c) h0
      rw [e]
      by_cases h3 : cmpV (atV b c) (atV d c) = 0
      · rw [if_pos h3] at h2 ⊢
        exact ih h1 h2
      · rw [if_neg h3] at h2 ⊢
        exact h2
    · rw [if_neg h0] at h1
      by_cases h3 : cmpV (atV b c) (atV d c) = 0
      · have e := cmpV_zero_trans (x := atV d c) (y := atV b c) (z := atV a c) (by omega)
        have e2 := cmpV_anti (atV a c) (atV d c)
        rw [if_neg (by omega)]
        omega
      · rw [if_neg h3] at h2
        have e := cmpV_trans h1 h2
        have e2 := cmpV_anti (atV a c) (atV d c)
        by_cases h5 : cmpV (atV a c) (atV d c) = 0
        · have := cmpV_zero_trans (z := atV b c) h5
          omega
        · rw [if_neg h5]; exact e
/-- The comparison of places of a row of rows. -/
def cfRow (rows : List (List S28)) (key : List Int) (i j : Nat) : Int := cmpRow (rows.getD i []) (rows.getD j []) key
theorem cfRow_ok (rows : List (List S28)) (key : List Int) : Cf (cfRow rows key) := ⟨fun i j => cmpRow_anti _ _ key, fun i j k => cmpRow_trans _ _ _ key⟩
/-- Rows in order, by places. -/
def places (cf : Nat → Nat → Int) (n : Nat) : List Nat := isort (ltc cf) [] (List.range n)
theorem places_ok {cf : Nat → Nat → Int} (C : Cf cf) (n : Nat) : Srd cf (places cf n) ∧ (places cf n).Perm (List.range n) := by
  have := isort_srd C (List.range n) [] srd_nil List.pairwise_lt_range (fun s h => nomatch h)
  rw [List.nil_append] at this
  exact this
theorem places_unique {cf : Nat → Nat → Int} (C : Cf cf) {n : Nat} {Z : List Nat} (hs : Srd cf Z) (hp : Z.Perm (List.range n)) : Z = places cf n :=
  Srd.unique C hs (places_ok C n).1 (hp.trans (places_ok C n).2.symm)
theorem at_f (l : List S28) (c : Int) : sorted_at.f l c = some ((atV l c).f0, (atV l c).f1, (atV l c).f2) := by
  unfold sorted_at.f atV
  by_cases h1 : c < 0
  · rw [if_pos h1, if_neg (by omega)]; rfl
  · rw [if_neg h1]
    by_cases h2 : c ≥ (l.length : Int)
    · rw [if_pos h2, if_neg (by omega)]; rfl
    · rw [if_neg h2, if_pos (by omega), if_pos (by omega), if_pos ⟨by omega, by omega⟩]
theorem cmp64_f (a b : Int) : cmp_Compare_int64.f a b = some (cmpI a b) := by
  unfold cmp_Compare_int64.f cmp_isNaN_int64.f cmpI
  simp only [bne_self_eq_false, Option.bind_some]
  rw [if_neg (by simp), if_neg (by simp)]
  split
  · rfl
  · split <;> rfl
theorem cmpi_f (a b : Int) : cmp_Compare_int.f a b = some (cmpI a b) := by
  unfold cmp_Compare_int.f cmp_isNaN_int.f cmpI
  simp only [bne_self_eq_false, Option.bind_some]
  rw [if_neg (by simp), if_neg (by simp)]
  split
  · rfl
  · split <;> rfl
theorem key_f {a : Int} (h : U a) : flt_Key.f a = some (ck a) := Hand.fltKey_f h
theorem fcmp_f {a b : Int} (ha : U a) (hb : U b) : flt_Compare.f a b = some (cmpI (ck a) (ck b)) := by
  unfold flt_Compare.f
  rw [key_f ha, key_f hb]
  simp only [Option.bind_some, cmpI]
  split
  · rfl
  · split <;> rfl
theorem vcmp_f (k1 i1 : Int) (s1 : ByteArray) (k2 i2 : Int) (s2 : ByteArray) : val_Compare.f k1 i1 s1 k2 i2 s2 = some (valCmp k1 i1 s1 k2 i2 s2) := by
  unfold val_Compare.f valCmp
  have := fcmp_f (u64_U i1) (u64_U i2)
  unfold u64 at this
  rw [cmp64_f, this, cmpi_f]
  unfold cmp_Compare_string.f
  simp only [Option.bind_some]
  unfold u64
  split
  · split
    · rfl
    · split
      · rfl
      · split <;> rfl
  · rfl

/-! ## the walk -/
set_option maxHeartbeats 2000000 in
set_option maxRecDepth 100000 in
theorem order1_calls (A : Option Addr) (ca : Nat) (a : List S28) (B : Option Addr) (cb : Nat) (b : List S28) (Ak : Option Addr) (ck : Nat) (key : List Int) (bk : Nat) (w : World)
    (ha : Kd.C k28 w A a.length a) (hca : a.length ≤ ca) (hb : Kd.C k28 w B b.length b) (hcb : b.length ≤ cb) (hk : Kd.C (Kd.int .i64) w Ak key.length key) (hx : w.cell? ⟨bk, 0, none⟩ = some (.slice Ak key.length ck)) :
    Calls Try.prog 44 #[.slice A a.length ca, .slice B b.length cb, .pointer (some ⟨bk, 0, none⟩)] w fun e w' => e = .returned (.int .i64 (cmpRow a b key)) ∧ Below w.heap.size w w' := by
  have hl := hk.2.1
  have HA := Aside0.mk ha
  have HCA := Aside0.mk hca
  have HBB := Aside0.mk hb
  have HCB := Aside0.mk hcb
  have HK := Aside0.mk hk
  have HB := Aside0.mk (Below.refl w.heap.size w)
  have H0 : Aside0 (cmpRow a b key = cmpRow a b (key.drop 0)) := ⟨by rw [List.drop_zero]⟩
  clear ha hca hb hcb hk
  go_enter Try.func44, Try.ntmps44
  go_wp2
  clear hx
  go_loopw [11] (fun v11 wr => ∃ i : Nat, v11 = .int .i64 i ∧ i ≤ key.length ∧ Aside0 (cmpRow a b key = cmpRow a b (key.drop i)) ∧ Aside0 (Below w.heap.size w wr)) (fun v11 _ => key.length - (intOf v11).toNat)
  case atStart => exact ⟨0, rfl, Nat.zero_le _, H0, HB⟩
  case round =>
    clear H0 HB
    obtain ⟨i, rfl, hi, HF, HB⟩ := hrel
    by_cases hlt : i < key.length
    · obtain ⟨ad, rfl, hx0⟩ := Kd.at_int HK.out (i : Int) (by omega) (by omega)
      rw [Int.toNat_natCast] at hx0
      replace hx0 := (HB.out.cell (World.block_lt_of_cell? w _ hx0)).trans hx0
      have hd : key.drop i = rd key (i : Int) :: key.drop (i + 1) := by
        rw [List.drop_eq_getElem_cons hlt]
        congr 1
        unfold rd
        rw [Int.toNat_natCast, List.getD_eq_getElem?_getD, List.getElem?_eq_getElem hlt]; rfl
      have HF2 := HF.out
      rw [hd] at HF2
      change _ = (if cmpV (atV a (rd key (i : Int))) (atV b (rd key (i : Int))) = 0 then cmpRow a b (key.drop (i + 1)) else cmpV (atV a (rd key (i : Int))) (atV b (rd key (i : Int)))) at HF2
      generalize rd key (i : Int) = c at hx0 HF2
      have HCA1 : Aside0 (∀ w1, Below w.heap.size w w1 → Calls Try.prog 37 #[.slice A a.length ca, .int .i64 c] w1 fun e w' => e = .returned (.agg #[.int .i64 (atV a c).f0, .int .i64 (atV a c).f1, .string (atV a c).f2]) ∧ Below w1.heap.size w1 w') := ⟨fun w1 hw => sorted_at.calls A ca a c _ _ _ w1 (Kd.C_below HA.out hw) HCA.out (at_f a c)⟩
      have HCB1 : Aside0 (∀ w1, Below w.heap.size w w1 → Calls Try.prog 37 #[.slice B b.length cb, .int .i64 c] w1 fun e w' => e = .returned (.agg #[.int .i64 (atV b c).f0, .int .i64 (atV b c).f1, .string (atV b c).f2]) ∧ Below w1.heap.size w1 w') := ⟨fun w1 hw => sorted_at.calls B cb b c _ _ _ w1 (Kd.C_below HBB.out hw) HCB.out (at_f b c)⟩
      have HCV : Aside0 (∀ w1, Calls Try.prog 45 #[.agg #[.int .i64 (atV a c).f0, .int .i64 (atV a c).f1, .string (atV a c).f2], .agg #[.int .i64 (atV b c).f0, .int .i64 (atV b c).f1, .string (atV b c).f2]] w1 fun e w' => e = .returned (.int .i64 (cmpV (atV a c) (atV b c))) ∧ Below w1.heap.size w1 w') := ⟨fun w1 => val_Compare.calls _ _ _ _ _ _ _ w1 (vcmp_f _ _ _ _ _ _)⟩
      generalize cmpV (atV a c) (atV b c) = v at HF2 HCV
      have p1 : (0 ≤ (i : Int)) = True := eq_true (by omega)
      have q1 : ((i : Int) < (key.length : Int)) = True := eq_true (by omega)
      have q2 : decide ((i : Int) < (key.length : Int)) = true := decide_eq_true (by omega)
      have q3 : decide (i < key.length) = true := decide_eq_true hlt
      clear HF hd
      by_cases hv : v = 0
      · rw [if_pos hv] at HF2
        have HF3 := Aside0.mk HF2
        have q4 : (v != 0) = false := by rw [hv]; rfl
        clear HF2 hv
        go_wp2_with (first
          | (go_at_call 37; (with_reducible refine (HCA1.out _ HB.out).mono ?_); rintro e w2 ⟨rfl, hb2⟩; have HB2 := Aside0.mk (HB.out.trans (hb2.mono HB.out.size)); clear hb2 HCA1 HB)
          | (go_at_call 37; (with_reducible refine (HCB1.out _ HB2.out).mono ?_); rintro e w3 ⟨rfl, hb3⟩; have HB3 := Aside0.mk (HB2.out.trans (hb3.mono HB2.out.size)); clear hb3 HCB1 HB2)
          | (go_at_call 45; (with_reducible refine (HCV.out _).mono ?_); rintro e w4 ⟨rfl, hb4⟩; have HB4 := Aside0.mk (HB3.out.trans (hb4.mono HB3.out.size)); clear hb4 HCV HB3))
        go_roundw
        case rel => exact ⟨i + 1, by first | rfl | go_num, by omega, HF3, HB4⟩
        case measure => simp only [intOf]; omega
      · rw [if_neg hv] at HF2
        have HF3 := Aside0.mk HF2
        have q4 : (v != 0) = true := by rw [bne_iff_ne]; exact hv
        clear HF2 hv
        go_wp2_with (first
          | (go_at_call 37; (with_reducible refine (HCA1.out _ HB.out).mono ?_); rintro e w2 ⟨rfl, hb2⟩; have HB2 := Aside0.mk (HB.out.trans (hb2.mono HB.out.size)); clear hb2 HCA1 HB)
          | (go_at_call 37; (with_reducible refine (HCB1.out _ HB2.out).mono ?_); rintro e w3 ⟨rfl, hb3⟩; have HB3 := Aside0.mk (HB2.out.trans (hb3.mono HB2.out.size)); clear hb3 HCB1 HB2)
          | (go_at_call 45; (with_reducible refine (HCV.out _).mono ?_); rintro e w4 ⟨rfl, hb4⟩; have HB4 := Aside0.mk (HB3.out.trans (hb4.mono HB3.out.size)); clear hb4 HCV HB3))
        go_ret
        exact ⟨by rw [HF3.out]; rfl, HB4.out⟩
    · have q2 : decide ((i : Int) < (key.length : Int)) = false := decide_eq_false (by omega)
      have q3 : decide (i < key.length) = false := decide_eq_false hlt
      have HF2 := HF.out
      rw [List.drop_eq_nil_of_le (by omega)] at HF2
      have HF3 := Aside0.mk HF2
      clear HF HF2
      go_wp2
      go_ret
      exact ⟨by rw [HF3.out]; rfl, HB.out⟩
end Go.Proofs.Ythpoeljnmdjjiaa.PSrn
