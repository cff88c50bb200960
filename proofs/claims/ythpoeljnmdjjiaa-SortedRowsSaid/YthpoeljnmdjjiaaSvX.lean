/-
  Several texts in one (by wip/gprint/mergeh.py), in their order.
-/
import Derived.Test.YthpoeljnmdjjiaaStY
import Derived.Test.YthpoeljnmdjjiaaHA
import Derived.Test.YthpoeljnmdjjiaaPSrnx6
import Derived.Test.YthpoeljnmdjjiaaPSrnx8
import Derived.Lib.LazyBuf
import Derived.Outline
section
/-
  Sorting, by hand: the comparison of rows by columns (sorted.order's closure).
-/
namespace Go.Proofs.Ythpoeljnmdjjiaa.PSrn
open Go.RowKit Go.Proofs.Ythpoeljnmdjjiaa.Hand Go.Proofs.Ythpoeljnmdjjiaa.Srt Go.Proofs.YthpoeljnmdjjiaaW.PrintWords Go.Proofs.YthpoeljnmdjjiaaW.PrintLast Go.Proofs.YthpoeljnmdjjiaaW.PrintMore
set_option linter.unusedVariables false
set_option linter.unusedSimpArgs false

/-! ## plain -/
def cmpV (x y : S28) : Int := valCmp x.f0 x.f1 x.f2 y.f0 y.f1 y.f2
def zV : S28 := ⟨0, 0, ⟨#[]⟩⟩
/-- A row's value of a column. -/
def atV (r : List S28) (c : Int) : S28 := if 0 ≤ c ∧ c < (r.length : Int) then rd_T28 r c else zV
/-- The order of two rows by some columns. -/
def cmpRow (a b : List S28) : List Int → Int
  | [] => 0
  | c :: t => if cmpV (atV a c) (atV b c) = 0 then cmpRow a b t else cmpV (atV a c) (atV b c)
theorem cmpV_anti (x y : S28) : cmpV y x = - cmpV x y := valCmp_anti _ _ _ _ _ _
theorem cmpV_trans {x y z : S28} (h1 : cmpV x y ≤ 0) (h2 : cmpV y z ≤ 0) : cmpV x z ≤ 0 := valCmp_trans h1 h2
theorem cmpV_zero_trans {x y z : S28} (h1 : cmpV x y = 0) : cmpV x z = cmpV y z := by
  have a1 := cmpV_anti x y
  have r1 := valCmp_range x.f0 x.f1 x.f2 z.f0 z.f1 z.f2
  have r2 := valCmp_range y.f0 y.f1 y.f2 z.f0 z.f1 z.f2
  change cmpV x z = -1 ∨ cmpV x z = 0 ∨ cmpV x z = 1 at r1
  change cmpV y z = -1 ∨ cmpV y z = 0 ∨ cmpV y z = 1 at r2
  have b1 := cmpV_anti x z
  have b2 := cmpV_anti y z
  have t1 : cmpV y z ≤ 0 → cmpV x z ≤ 0 := fun h => cmpV_trans (by omega) h
  have t2 : cmpV x z ≤ 0 → cmpV y z ≤ 0 := fun h => cmpV_trans (x := y) (y := x) (by omega) h
  have t3 : cmpV z x ≤ 0 → cmpV z y ≤ 0 := fun h => cmpV_trans h (by omega)
  have t4 : cmpV z y ≤ 0 → cmpV z x ≤ 0 := fun h => cmpV_trans h (by omega)
  omega
theorem cmpRow_anti (a b : List S28) : ∀ key, cmpRow b a key = - cmpRow a b key
  | [] => rfl
  | c :: t => by
    have h := cmpV_anti (atV a c) (atV b c)
    unfold cmpRow
    by_cases h0 : cmpV (atV a c) (atV b c) = 0
    · rw [if_pos h0, if_pos (by omega), cmpRow_anti a b t]
    · rw [if_neg h0, if_neg (by omega), h]
theorem cmpRow_trans (a b d : List S28) : ∀ key, cmpRow a b key ≤ 0 → cmpRow b d key ≤ 0 → cmpRow a d key ≤ 0
  | [] => fun _ _ => Int.le_refl _
  | c :: t => fun h1 h2 => by
    have ih := cmpRow_trans a b d t
    unfold cmpRow at h1 h2 ⊢
    have ab := cmpV_anti (atV a c) (atV b c)
    have bd := cmpV_anti (atV b c) (atV d c)
    by_cases h0 : cmpV (atV a c) (atV b c) = 0
    · rw [if_pos h0] at h1
      have e := cmpV_zero_trans (z := atV d c) h0
      rw [e]
      by_cases h3 : cmpV (atV b c) (atV d c) = 0
      · rw [if_pos h3] at h2 ⊢
        exact ih h1 h2
      · rw [if_neg h3] at h2 ⊢
        exact h2
    · rw [if_neg h0] at h1
      by_cases h3 : cmpV (atV b c) (atV d c) = 0
      · have e := cmpV_zero_trans (x := atV d c) (y := atV b c) (z := atV a c) (by omega)
        have e2 := cmpV_anti (atV a c) (atV d c)
        rw [if_neg (by omega)]
        omega
      · rw [if_neg h3] at h2
        have e := cmpV_trans h1 h2
        have e2 := cmpV_anti (atV a c) (atV d c)
        by_cases h5 : cmpV (atV a c) (atV d c) = 0
        · have := cmpV_zero_trans (z := atV b c) h5
          omega
        · rw [if_neg h5]; exact e
/-- The comparison of places of a row of rows. -/
def cfRow (rows : List (List S28)) (key : List Int) (i j : Nat) : Int := cmpRow (rows.getD i []) (rows.getD j []) key
theorem cfRow_ok (rows : List (List S28)) (key : List Int) : Cf (cfRow rows key) := ⟨fun i j => cmpRow_anti _ _ key, fun i j k => cmpRow_trans _ _ _ key⟩
/-- Rows in order, by places. -/
def places (cf : Nat → Nat → Int) (n : Nat) : List Nat := isort (ltc cf) [] (List.range n)
theorem places_ok {cf : Nat → Nat → Int} (C : Cf cf) (n : Nat) : Srd cf (places cf n) ∧ (places cf n).Perm (List.range n) := by
  have := isort_srd C (List.range n) [] srd_nil List.pairwise_lt_range (fun s h => nomatch h)
  rw [List.nil_append] at this
  exact this
theorem places_unique {cf : Nat → Nat → Int} (C : Cf cf) {n : Nat} {Z : List Nat} (hs : Srd cf Z) (hp : Z.Perm (List.range n)) : Z = places cf n :=
  Srd.unique C hs (places_ok C n).1 (hp.trans (places_ok C n).2.symm)
theorem at_f (l : List S28) (c : Int) : sorted_at.f l c = some ((atV l c).f0, (atV l c).f1, (atV l c).f2) := by
  unfold sorted_at.f atV
  by_cases h1 : c < 0
  · rw [if_pos h1, if_neg (by omega)]; rfl
  · rw [if_neg h1]
    by_cases h2 : c ≥ (l.length : Int)
    · rw [if_pos h2, if_neg (by omega)]; rfl
    · rw [if_neg h2, if_pos (by omega), if_pos (by omega), if_pos ⟨by omega, by omega⟩]
theorem cmp64_f (a b : Int) : cmp_Compare_int64.f a b = some (cmpI a b) := by
  unfold cmp_Compare_int64.f cmp_isNaN_int64.f cmpI
  simp only [bne_self_eq_false, Option.bind_some]
  rw [if_neg (by simp), if_neg (by simp)]
  split
  · rfl
  · split <;> rfl
theorem cmpi_f (a b : Int) : cmp_Compare_int.f a b = some (cmpI a b) := by
  unfold cmp_Compare_int.f cmp_isNaN_int.f cmpI
  simp only [bne_self_eq_false, Option.bind_some]
  rw [if_neg (by simp), if_neg (by simp)]
  split
  · rfl
  · split <;> rfl
theorem key_f {a : Int} (h : U a) : flt_Key.f a = some (ck a) := Hand.fltKey_f h
theorem fcmp_f {a b : Int} (ha : U a) (hb : U b) : flt_Compare.f a b = some (cmpI (ck a) (ck b)) := by
  unfold flt_Compare.f
  rw [key_f ha, key_f hb]
  simp only [Option.bind_some, cmpI]
  split
  · rfl
  · split <;> rfl
theorem vcmp_f (k1 i1 : Int) (s1 : ByteArray) (k2 i2 : Int) (s2 : ByteArray) : val_Compare.f k1 i1 s1 k2 i2 s2 = some (valCmp k1 i1 s1 k2 i2 s2) := by
  unfold val_Compare.f valCmp
  have := fcmp_f (u64_U i1) (u64_U i2)
  unfold u64 at this
  rw [cmp64_f, this, cmpi_f]
  unfold cmp_Compare_string.f
  simp only [Option.bind_some]
  unfold u64
  split
  · split
    · rfl
    · split
      · rfl
      · split <;> rfl
  · rfl

/-! ## the walk -/
set_option maxHeartbeats 2000000 in
set_option maxRecDepth 100000 in
theorem order1_calls (A : Option Addr) (ca : Nat) (a : List S28) (B : Option Addr) (cb : Nat) (b : List S28) (Ak : Option Addr) (ck : Nat) (key : List Int) (bk : Nat) (w : World)
    (ha : Kd.C k28 w A a.length a) (hca : a.length ≤ ca) (hb : Kd.C k28 w B b.length b) (hcb : b.length ≤ cb) (hk : Kd.C (Kd.int .i64) w Ak key.length key) (hx : w.cell? ⟨bk, 0, none⟩ = some (.slice Ak key.length ck)) :
    Calls Try.prog 44 #[.slice A a.length ca, .slice B b.length cb, .pointer (some ⟨bk, 0, none⟩)] w fun e w' => e = .returned (.int .i64 (cmpRow a b key)) ∧ Below w.heap.size w w' := by
  have hl := hk.2.1
  have HA := Aside0.mk ha
  have HCA := Aside0.mk hca
  have HBB := Aside0.mk hb
  have HCB := Aside0.mk hcb
  have HK := Aside0.mk hk
  have HB := Aside0.mk (Below.refl w.heap.size w)
  have H0 : Aside0 (cmpRow a b key = cmpRow a b (key.drop 0)) := ⟨by rw [List.drop_zero]⟩
  clear ha hca hb hcb hk
  go_enter Try.func44, Try.ntmps44
  go_wp2
  clear hx
  go_loopw [11] (fun v11 wr => ∃ i : Nat, v11 = .int .i64 i ∧ i ≤ key.length ∧ Aside0 (cmpRow a b key = cmpRow a b (key.drop i)) ∧ Aside0 (Below w.heap.size w wr)) (fun v11 _ => key.length - (intOf v11).toNat)
  case atStart => exact ⟨0, rfl, Nat.zero_le _, H0, HB⟩
  case round =>
    clear H0 HB
    obtain ⟨i, rfl, hi, HF, HB⟩ := hrel
    by_cases hlt : i < key.length
    · obtain ⟨ad, rfl, hx0⟩ := Kd.at_int HK.out (i : Int) (by omega) (by omega)
      rw [Int.toNat_natCast] at hx0
      replace hx0 := (HB.out.cell (World.block_lt_of_cell? w _ hx0)).trans hx0
      have hd : key.drop i = rd key (i : Int) :: key.drop (i + 1) := by
        rw [List.drop_eq_getElem_cons hlt]
        congr 1
        unfold rd
        rw [Int.toNat_natCast, List.getD_eq_getElem?_getD, List.getElem?_eq_getElem hlt]; rfl
      have HF2 := HF.out
      rw [hd] at HF2
      change _ = (if cmpV (atV a (rd key (i : Int))) (atV b (rd key (i : Int))) = 0 then cmpRow a b (key.drop (i + 1)) else cmpV (atV a (rd key (i : Int))) (atV b (rd key (i : Int)))) at HF2
      generalize rd key (i : Int) = c at hx0 HF2
      have HCA1 : Aside0 (∀ w1, Below w.heap.size w w1 → Calls Try.prog 37 #[.slice A a.length ca, .int .i64 c] w1 fun e w' => e = .returned (.agg #[.int .i64 (atV a c).f0, .int .i64 (atV a c).f1, .string (atV a c).f2]) ∧ Below w1.heap.size w1 w') := ⟨fun w1 hw => sorted_at.calls A ca a c _ _ _ w1 (Kd.C_below HA.out hw) HCA.out (at_f a c)⟩
      have HCB1 : Aside0 (∀ w1, Below w.heap.size w w1 → Calls Try.prog 37 #[.slice B b.length cb, .int .i64 c] w1 fun e w' => e = .returned (.agg #[.int .i64 (atV b c).f0, .int .i64 (atV b c).f1, .string (atV b c).f2]) ∧ Below w1.heap.size w1 w') := ⟨fun w1 hw => sorted_at.calls B cb b c _ _ _ w1 (Kd.C_below HBB.out hw) HCB.out (at_f b c)⟩
      have HCV : Aside0 (∀ w1, Calls Try.prog 45 #[.agg #[.int .i64 (atV a c).f0, .int .i64 (atV a c).f1, .string (atV a c).f2], .agg #[.int .i64 (atV b c).f0, .int .i64 (atV b c).f1, .string (atV b c).f2]] w1 fun e w' => e = .returned (.int .i64 (cmpV (atV a c) (atV b c))) ∧ Below w1.heap.size w1 w') := ⟨fun w1 => val_Compare.calls _ _ _ _ _ _ _ w1 (vcmp_f _ _ _ _ _ _)⟩
      generalize cmpV (atV a c) (atV b c) = v at HF2 HCV
      have p1 : (0 ≤ (i : Int)) = True := eq_true (by omega)
      have q1 : ((i : Int) < (key.length : Int)) = True := eq_true (by omega)
      have q2 : decide ((i : Int) < (key.length : Int)) = true := decide_eq_true (by omega)
      have q3 : decide (i < key.length) = true := decide_eq_true hlt
      clear HF hd
      by_cases hv : v = 0
      · rw [if_pos hv] at HF2
        have HF3 := Aside0.mk HF2
        have q4 : (v != 0) = false := by rw [hv]; rfl
        clear HF2 hv
        go_wp2_with (first
          | (go_at_call 37; (with_reducible refine (HCA1.out _ HB.out).mono ?_); rintro e w2 ⟨rfl, hb2⟩; have HB2 := Aside0.mk (HB.out.trans (hb2.mono HB.out.size)); clear hb2 HCA1 HB)
          | (go_at_call 37; (with_reducible refine (HCB1.out _ HB2.out).mono ?_); rintro e w3 ⟨rfl, hb3⟩; have HB3 := Aside0.mk (HB2.out.trans (hb3.mono HB2.out.size)); clear hb3 HCB1 HB2)
          | (go_at_call 45; (with_reducible refine (HCV.out _).mono ?_); rintro e w4 ⟨rfl, hb4⟩; have HB4 := Aside0.mk (HB3.out.trans (hb4.mono HB3.out.size)); clear hb4 HCV HB3))
        go_roundw
        case rel => exact ⟨i + 1, by first | rfl | go_num, by omega, HF3, HB4⟩
        case measure => simp only [intOf]; omega
      · rw [if_neg hv] at HF2
        have HF3 := Aside0.mk HF2
        have q4 : (v != 0) = true := by rw [bne_iff_ne]; exact hv
        clear HF2 hv
        go_wp2_with (first
          | (go_at_call 37; (with_reducible refine (HCA1.out _ HB.out).mono ?_); rintro e w2 ⟨rfl, hb2⟩; have HB2 := Aside0.mk (HB.out.trans (hb2.mono HB.out.size)); clear hb2 HCA1 HB)
          | (go_at_call 37; (with_reducible refine (HCB1.out _ HB2.out).mono ?_); rintro e w3 ⟨rfl, hb3⟩; have HB3 := Aside0.mk (HB2.out.trans (hb3.mono HB2.out.size)); clear hb3 HCB1 HB2)
          | (go_at_call 45; (with_reducible refine (HCV.out _).mono ?_); rintro e w4 ⟨rfl, hb4⟩; have HB4 := Aside0.mk (HB3.out.trans (hb4.mono HB3.out.size)); clear hb4 HCV HB3))
        go_ret
        exact ⟨by rw [HF3.out]; rfl, HB4.out⟩
    · have q2 : decide ((i : Int) < (key.length : Int)) = false := decide_eq_false (by omega)
      have q3 : decide (i < key.length) = false := decide_eq_false hlt
      have HF2 := HF.out
      rw [List.drop_eq_nil_of_le (by omega)] at HF2
      have HF3 := Aside0.mk HF2
      clear HF HF2
      go_wp2
      go_ret
      exact ⟨by rw [HF3.out]; rfl, HB.out⟩
end Go.Proofs.Ythpoeljnmdjjiaa.PSrn
end
section
/-
  Sorting, by hand: slices.Clone of rows and of a row of rows; sorted.order; sorting of no elements.
-/
namespace Go.Proofs.Ythpoeljnmdjjiaa.PSrn
open Go.RowKit Go.Proofs.Ythpoeljnmdjjiaa.Hand Go.Proofs.Ythpoeljnmdjjiaa.Srt Go.Proofs.YthpoeljnmdjjiaaW.PrintWords Go.Proofs.YthpoeljnmdjjiaaW.PrintLast Go.Proofs.YthpoeljnmdjjiaaW.PrintMore
set_option linter.unusedVariables false
set_option linter.unusedSimpArgs false

set_option maxHeartbeats 2000000 in
set_option maxRecDepth 100000 in
theorem clone_calls (A0 : Option Addr) (c0 : Nat) (l0 : List S28) (w : World) (hr0 : Kd.C k28 w A0 l0.length l0) (hl : l0.length < 4398046511104) :
    Calls Try.prog 28 #[.slice A0 l0.length c0] w fun e w' => ∃ v, e = .returned v ∧ Kd.R k28 28 w' w.heap.size (fun _ => True) v l0 ∧ Below w.heap.size w w' := by
  have hu32 := Try.underlying26
  have HR0 := Aside0.mk hr0
  have Hl := Aside0.mk hl
  have HB := Aside0.mk (Below.refl w.heap.size w)
  have hnil : ∀ (A : Option Addr) (w : World), (binOp .eql 26 (.slice A l0.length c0) (.slice none 0 0)).run Try.prog w = .ok (.bool A.isNone) w := fun A w => Lib.run_eql_slice_nil w 26 28 A l0.length c0 0 0 Try.underlying26
  cases A0 with
  | none =>
    have h0 : l0 = [] := by
      rcases Nat.eq_zero_or_pos l0.length with h | h
      · exact List.eq_nil_of_length_eq_zero h
      · obtain ⟨ad, e, _⟩ := hr0.2.2 h; cases e
    have hnil2 := hnil none
    have H0 := Aside0.mk h0
    clear hr0 hl hnil h0
    simp only [Option.isNone_none] at hnil2
    go_enter Try.func28, Try.ntmps28
    go_wp2
    go_ret
    exact ⟨_, rfl, H0.out ▸ Kd.R_nil _ _ _ _ _, HB.out⟩
  | some ad =>
    have hnil2 := hnil (some ad)
    clear hr0 hl hnil
    simp only [Option.isNone_some] at hnil2
    go_enter Try.func28, Try.ntmps28
    go_wp2_with (first
      | ((with_reducible refine gate_dst (N := 5) rfl ?_); refine Kd.R_lit k28 _ 28 ?hg (N := 5) ?hd (xs := ([] : List S28)) (inner := []) (ok := fun _ => True) (okp := fun _ => True) ?hr ?hp (fun _ hk => hk) trivial (Below.refl w.heap.size w) (Nat.le_refl _) (by simp) ?_; (case hd => rfl); (case hg => rfl); (case hr => first | (go_simp; done) | (go_simp; rfl)); (case hp => exact (Reps.none _ _)); intro v5 w5 ho5 hb5 hg5 hnew5; have HO5 := Aside0.mk ho5; have HB5 := Aside0.mk hb5; clear ho5 hb5 hg5 hnew5 HB)
      | ((with_reducible refine gate_builtin (b := .append) (xs := #[.tmp 5, .tmp 6]) rfl ?_); at_builtin; refine Kd.R_append_rows k28 (w0 := w) w.heap.size rfl (.tmp 5) (.tmp 6) 26 28 (.agg #[(.int .i64 0), (.int .i64 0), (.string ⟨#[]⟩)]) 32 rfl Try.underlying26 info28 rfl (by decide) (by omega) v5 [] l0 _ _ _ (fun _ => True) (fun _ => False) rfl rfl HO5.out (Kd.C_below HR0.out HB5.out) (fun _ _ h => h) (fun _ h => h.elim) (fun _ _ => trivial) HB5.out (below_size HB5.out) (by have := Hl.out; simp; omega) ?_; intro v7 w7 ho7 hb7 hg7 hat7; rw [List.nil_append] at ho7; have HO7 := Aside0.mk ho7; have HB7 := Aside0.mk hb7; clear ho7 hb7 hg7 hat7))
    go_ret
    exact ⟨_, rfl, HO7.out, HB7.out⟩

set_option maxHeartbeats 2000000 in
set_option maxRecDepth 100000 in
theorem cloneL_calls (A0 : Option Addr) (c0 : Nat) (hs : List (List Value)) (w : World) (hr0 : Kd.C (Kd.raw 1) w A0 hs.length hs) (hl : hs.length < 4398046511104) :
    Calls Try.prog 25 #[.slice A0 hs.length c0] w fun e w' => ∃ v, e = .returned v ∧ Kd.R (Kd.raw 1) 26 w' w.heap.size (fun _ => True) v hs ∧ Below w.heap.size w w' := by
  have hu32 := Try.underlying22
  have HR0 := Aside0.mk hr0
  have Hl := Aside0.mk hl
  have HB := Aside0.mk (Below.refl w.heap.size w)
  have hnil : ∀ (A : Option Addr) (w : World), (binOp .eql 22 (.slice A hs.length c0) (.slice none 0 0)).run Try.prog w = .ok (.bool A.isNone) w := fun A w => Lib.run_eql_slice_nil w 22 26 A hs.length c0 0 0 Try.underlying22
  cases A0 with
  | none =>
    have h0 : hs = [] := by
      rcases Nat.eq_zero_or_pos hs.length with h | h
      · exact List.eq_nil_of_length_eq_zero h
      · obtain ⟨ad, e, _⟩ := hr0.2.2 h; cases e
    have hnil2 := hnil none
    have H0 := Aside0.mk h0
    clear hr0 hl hnil h0
    simp only [Option.isNone_none] at hnil2
    go_enter Try.func25, Try.ntmps25
    go_wp2
    go_ret
    exact ⟨_, rfl, H0.out ▸ Kd.R_nil _ _ _ _ _, HB.out⟩
  | some ad =>
    have hnil2 := hnil (some ad)
    clear hr0 hl hnil
    simp only [Option.isNone_some] at hnil2
    go_enter Try.func25, Try.ntmps25
    go_wp2_with (first
      | ((with_reducible refine gate_dst (N := 5) rfl ?_); refine Kd.R_lit (Kd.raw 1) _ 26 ?hg (N := 5) ?hd (xs := ([] : List (List Value))) (inner := []) (ok := fun _ => True) (okp := fun _ => True) ?hr ?hp (fun _ hk => hk) trivial (Below.refl w.heap.size w) (Nat.le_refl _) (by simp) ?_; (case hd => rfl); (case hg => rfl); (case hr => first | (go_simp; done) | (go_simp; rfl)); (case hp => exact (Reps.none _ _)); intro v5 w5 ho5 hb5 hg5 hnew5; have HO5 := Aside0.mk ho5; have HB5 := Aside0.mk hb5; clear ho5 hb5 hg5 hnew5 HB)
      | ((with_reducible refine gate_builtin (b := .append) (xs := #[.tmp 5, .tmp 6]) rfl ?_); at_builtin; refine Kd.R_append_rows (Kd.raw 1) (w0 := w) w.heap.size rfl (.tmp 5) (.tmp 6) 22 26 (.slice none 0 0) 24 rfl Try.underlying22 info26 rfl (by decide) (by omega) v5 [] hs _ _ _ (fun _ => True) (fun _ => False) rfl rfl HO5.out (Kd.C_below HR0.out HB5.out) (fun _ _ h => h) (fun _ h => h.elim) (fun _ _ => trivial) HB5.out (below_size HB5.out) (by have := Hl.out; simp; omega) ?_; intro v7 w7 ho7 hb7 hg7 hat7; rw [List.nil_append] at ho7; have HO7 := Aside0.mk ho7; have HB7 := Aside0.mk hb7; clear ho7 hb7 hg7 hat7))
    go_ret
    exact ⟨_, rfl, HO7.out, HB7.out⟩

set_option maxRecDepth 100000 in
theorem order_calls (Ak : Option Addr) (n ck : Nat) (w : World) :
    Calls Try.prog 27 #[.slice Ak n ck] w fun e w' => e = .returned (.func (.func 44) #[] #[.pointer (some ⟨w.heap.size, 0, none⟩)]) ∧ w' = w.alloc (.cells #[.slice Ak n ck] 23) := by
  go_enter Try.func27, Try.ntmps27
  go_wp2
  go_ret
  exact ⟨rfl, rfl⟩

set_option maxRecDepth 100000 in
theorem insertion_zero (dv fv : Value) (w : World) :
    Calls Try.prog 59 #[dv, .int .i64 0, .int .i64 0, fv] w fun e w' => e = .returned (.tuple #[]) ∧ w' = w := by
  go_enter Try.func59, Try.ntmps59
  go_wp2
  go_loopw [8] (fun v8 wr => v8 = .int .i64 1 ∧ Aside0 (wr = w)) (fun _ _ => 0)
  case atStart => exact ⟨rfl, ⟨rfl⟩⟩
  case round =>
    obtain ⟨rfl, HS⟩ := hrel
    go_wp2
    go_end0
    exact ⟨rfl, HS.out⟩
set_option maxRecDepth 100000 in
theorem stable_zero (dv fv : Value) (w : World) :
    Calls Try.prog 43 #[dv, .int .i64 0, fv] w fun e w' => e = .returned (.tuple #[]) ∧ w' = w := by
  go_enter Try.func43, Try.ntmps43
  go_wp2
  go_loopw [7, 8] (fun v7 v8 wr => v7 = .int .i64 0 ∧ v8 = .int .i64 20 ∧ Aside0 (wr = w)) (fun _ _ _ => 0)
  case atStart => exact ⟨rfl, rfl, ⟨rfl⟩⟩
  case round =>
    obtain ⟨rfl, rfl, HS⟩ := hrel
    go_wp2_with (go_at_call 59; refine (insertion_zero _ _ _).mono ?_; rintro e w5 ⟨rfl, rfl⟩)
    go_loopw [6] (fun v6 wr => v6 = .int .i64 20 ∧ Aside0 (wr = w)) (fun _ _ => 0)
    case atStart => exact ⟨rfl, HS⟩
    case round =>
      clear HS
      obtain ⟨rfl, HS⟩ := hrel
      go_wp2
      go_end0
      exact ⟨rfl, HS.out⟩
set_option maxRecDepth 100000 in
theorem sortStable_zero (A : Option Addr) (c : Nat) (fv : Value) (w : World) :
    Calls Try.prog 26 #[.slice A 0 c, fv] w fun e w' => e = .returned (.tuple #[]) ∧ w' = w := by
  go_enter Try.func26, Try.ntmps26
  go_wp2_with (go_at_call 43; refine (stable_zero _ _ _).mono ?_; rintro e w5 ⟨rfl, rfl⟩)
  go_end0
  exact ⟨rfl, rfl⟩
end Go.Proofs.Ythpoeljnmdjjiaa.PSrn
end
section
/-
  Sorting, by hand: sorted.By.
-/
namespace Go.Proofs.Ythpoeljnmdjjiaa.PSrn
open Go.RowKit Go.Proofs.Ythpoeljnmdjjiaa.Hand Go.Proofs.Ythpoeljnmdjjiaa.Srt Go.Proofs.YthpoeljnmdjjiaaW.PrintWords Go.Proofs.YthpoeljnmdjjiaaW.PrintLast Go.Proofs.YthpoeljnmdjjiaaW.PrintMore
set_option linter.unusedVariables false
set_option linter.unusedSimpArgs false

/-- The headers of a row of rows. -/
structure HdOf (w : World) (rows : List (List S28)) (Hf : Nat → Hd) : Prop where
  len : ∀ i, (Hf i).2.1 = (rows.getD i []).length
  cap : ∀ i, (rows.getD i []).length ≤ (Hf i).2.2
  rd : ∀ i, Kd.C k28 w (Hf i).1 (rows.getD i []).length (rows.getD i [])
theorem HdOf.eq {w : World} {rows : List (List S28)} {Hf : Nat → Hd} (h : HdOf w rows Hf) (i : Nat) : hdr (Hf i) = .slice (Hf i).1 (rows.getD i []).length (Hf i).2.2 := by
  unfold hdr; rw [h.len i]
theorem HdOf.below {w w1 : World} {rows : List (List S28)} {Hf : Nat → Hd} (h : HdOf w rows Hf) (hb : Below w.heap.size w w1) : HdOf w1 rows Hf := ⟨h.len, h.cap, fun i => Kd.C_below (h.rd i) hb⟩
theorem rows_hd {w : World} {A : Option Addr} {rows : List (List S28)} (h : Kd.C (Kd.slice 28 k28) w A rows.length rows) :
    ∃ Hf : Nat → Hd, HdOf w rows Hf ∧ Kd.C (Kd.raw 1) w A rows.length ((List.range rows.length).map fun i => [hdr (Hf i)]) := by
  have hx : ∀ i : Nat, ∃ p : Hd, (p.2.1 = (rows.getD i []).length ∧ (rows.getD i []).length ≤ p.2.2 ∧ Kd.C k28 w p.1 (rows.getD i []).length (rows.getD i [])) ∧ (i < rows.length → ∀ ad, A = some ad → w.cell? (ad.add i) = some (hdr p)) := by
    intro i
    rcases Nat.lt_or_ge i rows.length with hi | hi
    · obtain ⟨ad, A0, c0, e, hc, hl, hC⟩ := at_L3 h (i : Int) (by omega) (by omega)
      have hr : rd_L3 rows (i : Int) = rows.getD i [] := by unfold rd_L3; rw [Int.toNat_natCast]
      rw [hr] at hc hl hC
      rw [Int.toNat_natCast] at hc
      exact ⟨(A0, (rows.getD i []).length, c0), ⟨rfl, hl, hC⟩, fun _ ad2 e2 => by rw [e] at e2; cases e2; exact hc⟩
    · have hn : rows.getD i [] = [] := by rw [List.getD_eq_getElem?_getD, List.getElem?_eq_none hi]; rfl
      rw [hn]
      exact ⟨(none, 0, 0), ⟨rfl, Nat.le_refl _, Kd.C_nil _ _⟩, fun h => absurd h (by omega)⟩
  refine ⟨fun i => Classical.choose (hx i), ⟨fun i => (Classical.choose_spec (hx i)).1.1, fun i => (Classical.choose_spec (hx i)).1.2.1, fun i => (Classical.choose_spec (hx i)).1.2.2⟩, ?_⟩
  refine ⟨by simp, h.2.1, fun h0 => ?_⟩
  obtain ⟨ad, e, _⟩ := h.2.2 h0
  refine ⟨ad, e, fun j p hj => ?_⟩
  rw [List.getElem?_map] at hj
  have hjl : j < rows.length := by
    rcases Nat.lt_or_ge j rows.length with h | h
    · exact h
    · rw [List.getElem?_eq_none (by simpa using h)] at hj; cases hj
  rw [List.getElem?_range hjl] at hj
  simp only [Option.map_some, Option.some.injEq] at hj
  subst hj
  refine ⟨_, rfl, ⟨rfl, rfl, fun u hu => by rw [List.mem_singleton.1 hu]; rfl⟩, fun i u hi => ?_⟩
  cases i with
  | succ i => simp at hi
  | zero =>
    simp only [List.getElem?_cons_zero, Option.some.injEq] at hi
    subst hi
    show w.cell? (ad.add (j * 1 + 0)) = _
    rw [Nat.mul_one, Nat.add_zero]
    exact (Classical.choose_spec (hx j)).2 hjl ad e
/-- A clone's block. -/
theorem clone_block {w : World} {B n : Nat} {v : Value} {Hf : Nat → Hd} (h : Kd.R (Kd.raw 1) 26 w B (fun _ => True) v ((List.range n).map fun i => [hdr (Hf i)])) :
    (n = 0 ∧ ∃ A c, v = .slice A 0 c) ∨ (0 < n ∧ ∃ g cap T, v = .slice (some ⟨g, 0, none⟩) n cap ∧ B ≤ g ∧ n ≤ cap ∧ cap ≤ maxLen ∧ T.length = cap - n ∧ w.heap[g]? = some (.cells ((List.range n).map (fun i => hdr (Hf i)) ++ T).toArray 26 (0, 0))) := by
  obtain ⟨_, inner, ho, hr1, hr2⟩ := h
  have hl : ((List.range n).map fun i => [hdr (Hf i)]).length = n := by simp
  rw [hl] at ho
  obtain ⟨o1, o2⟩ := ho
  change inner.length = n * 1 at o1
  have hin : inner = (List.range n).map fun i => hdr (Hf i) := by
    refine List.ext_getElem (by simpa using o1) (fun i h1 h2 => ?_)
    have hi : i < n := by simpa using h2
    have := hr2 i [hdr (Hf i)] (by rw [List.getElem?_map, List.getElem?_range hi]; rfl)
    have h3 := this.1
    change (inner.drop (i * 1)).take 1 = [hdr (Hf i)] at h3
    rw [Nat.mul_one, List.drop_eq_getElem_cons h1, List.take_succ_cons, List.take_zero] at h3
    simp only [List.cons.injEq, and_true] at h3
    rw [h3]
    simp
  rcases Nat.eq_zero_or_pos n with h0 | h0
  · left
    subst h0
    rcases o2 with ⟨rfl, _⟩ | ⟨g, cap, cur, rfl, _⟩
    · exact ⟨rfl, _, _, rfl⟩
    · exact ⟨rfl, _, _, rfl⟩
  · right
    rcases o2 with ⟨_, h1⟩ | ⟨g, cap, cur, rfl, hB, hh, hc1, hc2, hs, ht⟩
    · omega
    · change cur.size = cap * 1 at hs
      refine ⟨h0, g, cap, cur.toList.drop n, rfl, hB, hc1, hc2, by rw [List.length_drop, Array.length_toList]; omega, ?_⟩
      rw [← hin]
      have e : inner = cur.toList.take n := by rw [← ht]; show cur.toList.take (n * 1) = _; rw [Nat.mul_one]
      rw [e, List.take_append_drop]
      exact hh
/-- The loop of By: the first i headers are of rows of its own, each in blocks of its own. -/
def BI (B g : Nat) (T : List Value) (H : Nat → Hd) (Z : List Nat) (row : Nat → List S28) (i : Nat) (W : World) : Prop :=
  ∃ (vs : List Value) (f : Nat → Nat), vs.length = i ∧ W.heap[g]? = some (.cells (vs ++ ((Z.drop i).map (fun j => hdr (H j)) ++ T)).toArray 26 (0, 0)) ∧
    ∀ j u, vs[j]? = some u → Kd.R k28 28 W B (fun k => k ≠ g ∧ f k = j) u (row (Z.getD j 0))
theorem BI.lt {B g : Nat} {T : List Value} {H : Nat → Hd} {Z : List Nat} {row : Nat → List S28} {i : Nat} {W : World} (h : BI B g T H Z row i W) : g < W.heap.size := by
  obtain ⟨vs, f, hl, hb, hr⟩ := h
  exact blk_lt hb
theorem BI.below {B g : Nat} {T : List Value} {H : Nat → Hd} {Z : List Nat} {row : Nat → List S28} {i : Nat} {W W1 : World} (h : BI B g T H Z row i W) (hbl : Below W.heap.size W W1) : BI B g T H Z row i W1 := by
  obtain ⟨vs, f, hl, hb, hr⟩ := h
  exact ⟨vs, f, hl, blk_below hb hbl, fun j u hu => Kd.R_below (hr j u hu) hbl⟩
theorem BI.frozen {B g : Nat} {T : List Value} {H : Nat → Hd} {Z : List Nat} {row : Nat → List S28} {i : Nat} {W : World} (h : BI B g T H Z row i W) (j : Nat) : W.frozen? ⟨g, j, none⟩ = false := by
  obtain ⟨vs, f, hl, hb, hr⟩ := h
  exact blk_frozen hb j
theorem BI.cell {B g : Nat} {T : List Value} {H : Nat → Hd} {Z : List Nat} {row : Nat → List S28} {i : Nat} {W : World} (h : BI B g T H Z row i W) (hi : i < Z.length) : W.cell? ⟨g, i, none⟩ = some (hdr (H (Z.getD i 0))) := by
  obtain ⟨vs, f, hl, hb, hr⟩ := h
  rw [blk_cell hb i, List.getElem?_toArray, List.getElem?_append_right (by omega), hl, Nat.sub_self, List.drop_eq_getElem_cons hi, List.map_cons, List.cons_append, List.getElem?_cons_zero]
  rw [List.getD_eq_getElem?_getD, List.getElem?_eq_getElem hi]; rfl
theorem BI.step {B g : Nat} {T : List Value} {H : Nat → Hd} {Z : List Nat} {row : Nat → List S28} {i : Nat} {W W1 : World} {u : Value} (h : BI B g T H Z row i W) (hi : i < Z.length) (hbl : Below W.heap.size W W1) (hB : B ≤ W.heap.size)
    (hu : Kd.R k28 28 W1 W.heap.size (fun _ => True) u (row (Z.getD i 0))) : BI B g T H Z row (i + 1) (W1.setCell ⟨g, i, none⟩ u) := by
  have hg := h.lt
  obtain ⟨vs, f, hl, hb, hr⟩ := h
  refine ⟨vs ++ [u], fun k => if k < W.heap.size then f k else i, by simp [hl], ?_, fun j x hx => ?_⟩
  · refine blk_put (blk_below hb hbl) i u ?_
    rw [List.setIfInBounds_toArray, List.set_append_right _ _ (by omega), hl, Nat.sub_self, List.drop_eq_getElem_cons hi, List.map_cons, List.cons_append, List.set_cons_zero]
    simp
  · rcases Nat.lt_or_ge j i with hj | hj
    · rw [List.getElem?_append_left (by omega)] at hx
      have h1 := Kd.R_below (Kd.R_bound (hr j x hx)) hbl
      refine Kd.R_mono (Kd.R_far (p := ⟨g, i, none⟩) h1 (fun k hk => hk.1.1) u) (fun k hk => ⟨hk.1.1, ?_⟩)
      show (if k < W.heap.size then f k else i) = j
      rw [if_pos hk.2.2.1]
      exact hk.1.2
    · have hjl := (List.getElem?_eq_some_iff.1 hx).1
      rw [List.length_append, List.length_singleton, hl] at hjl
      obtain rfl : j = i := by omega
      rw [List.getElem?_append_right (by omega), hl, Nat.sub_self] at hx
      simp only [List.getElem?_cons_zero, Option.some.injEq] at hx
      subst hx
      have h1 := Kd.R_bound hu
      refine Kd.R_lower (Kd.R_mono (Kd.R_far (p := ⟨g, j, none⟩) h1 (fun k hk => by have := hk.2.1; show k ≠ g; omega) u) (fun k hk => ⟨by have := hk.2.1; omega, ?_⟩)) hB
      show (if k < W.heap.size then f k else j) = j
      rw [if_neg (by have := hk.2.1; omega)]
theorem BI.fin {B g cap : Nat} {T : List Value} {H : Nat → Hd} {Z : List Nat} {row : Nat → List S28} {i : Nat} {W : World} (h : BI B g T H Z row i W) (hi : i = Z.length) (hBg : B ≤ g) (hcap : Z.length ≤ cap) (hcm : cap ≤ maxLen) (hT : T.length = cap - Z.length) :
    Kd.S (Kd.slice 28 k28) 26 W B (fun _ => True) (.slice (some ⟨g, 0, none⟩) Z.length cap) (Z.map row) := by
  obtain ⟨vs, f, hl, hb, hr⟩ := h
  subst hi
  rw [List.drop_eq_nil_of_le (Nat.le_refl _), List.map_nil, List.nil_append] at hb
  refine ⟨f, fun _ _ => trivial, vs, ⟨by rw [List.length_zipIdx, List.length_map]; show vs.length = Z.length * 1; omega, .inr ⟨g, cap, _, by rw [List.length_zipIdx, List.length_map], hBg, hb, by rw [List.length_zipIdx, List.length_map]; exact hcap, hcm, by simp; show vs.length + T.length = cap * 1; omega, ?_⟩⟩, ?_⟩
  · rw [List.length_zipIdx, List.length_map]
    show (vs ++ T).take (Z.length * 1) = vs
    rw [Nat.mul_one, ← hl, List.take_left']
    rfl
  · refine ⟨by rw [List.length_zipIdx, List.length_map]; show vs.length = Z.length * 1; omega, fun j p hp => ?_⟩
    have hjl : j < vs.length := by
      have := (List.getElem?_eq_some_iff.1 hp).1
      rw [List.length_zipIdx, List.length_map] at this
      omega
    rw [List.getElem?_zipIdx, List.getElem?_map, List.getElem?_eq_getElem (by omega : j < Z.length)] at hp
    simp only [Option.map_some, Option.some.injEq, Nat.zero_add] at hp
    subst hp
    show (Kd.tag f (Kd.slice 28 k28)).M W B _ (row Z[j], j) ((vs.drop (j * 1)).take 1)
    rw [Nat.mul_one, List.drop_eq_getElem_cons hjl, List.take_succ_cons, List.take_zero]
    have h1 := hr j vs[j] (List.getElem?_eq_getElem hjl)
    have e : Z.getD j 0 = Z[j]'(by omega) := by rw [List.getD_eq_getElem?_getD, List.getElem?_eq_getElem (by omega : j < Z.length)]; rfl
    rw [e] at h1
    exact ⟨vs[j], rfl, Kd.R_mono h1 (fun k hk => ⟨⟨trivial, fun he => hk.1 (by simpa [Value.ownBlock] using he)⟩, hk.2⟩)⟩
end Go.Proofs.Ythpoeljnmdjjiaa.PSrn
end
section
/-
  Sorting, by hand: sorted.By, its walk.
-/
namespace Go.Proofs.Ythpoeljnmdjjiaa.PSrn
open Go.RowKit Go.Proofs.Ythpoeljnmdjjiaa.Hand Go.Proofs.Ythpoeljnmdjjiaa.Srt Go.Proofs.YthpoeljnmdjjiaaW.PrintWords Go.Proofs.YthpoeljnmdjjiaaW.PrintLast Go.Proofs.YthpoeljnmdjjiaaW.PrintMore
set_option linter.unusedVariables false
set_option linter.unusedSimpArgs false

def shortRows (rows : List (List S28)) : Bool := rows.all (fun r => decide (r.length < 4398046511104))
def byF (rows : List (List S28)) (key : List Int) : Option (List (List S28)) :=
  if rows.length ≤ 100000 ∧ shortRows rows = true then some ((places (cfRow rows key) rows.length).map fun i => rows.getD i []) else none
theorem shortRows_at {rows : List (List S28)} (h : shortRows rows = true) (i : Nat) : (rows.getD i []).length < 4398046511104 := by
  rw [List.getD_eq_getElem?_getD]
  cases hr : rows[i]? with
  | none => simp
  | some r => simpa using List.all_eq_true.1 h r (List.mem_of_getElem? hr)
/-- What the sort asks of its comparison. -/
theorem cmp_ok {w w0 : World} {g : Nat} {rows : List (List S28)} {Hf : Nat → Hd} {key : List Int} {Ak : Option Addr} {ck bk : Nat} (hH : HdOf w rows Hf) (hw : Below w.heap.size w w0) (hg : w.heap.size ≤ g) (hk : Kd.C (Kd.int .i64) w Ak key.length key)
    (hb : bk < w0.heap.size) (hbg : bk ≠ g) (hx : w0.cell? ⟨bk, 0, none⟩ = some (.slice Ak key.length ck)) : CmpOK w0 g Hf 44 #[.pointer (some ⟨bk, 0, none⟩)] (cfRow rows key) := by
  intro i j W h1 h2
  have hW : Below w.heap.size w W := hw.trans (h1.mono hg)
  have := hH.below hW
  rw [this.eq i, this.eq j]
  exact order1_calls _ _ _ _ _ _ _ ck key bk W (this.rd i) (this.cap i) (this.rd j) (this.cap j) (Kd.C_below hk hW) ((World.cell?_of_block (a := ⟨bk, 0, none⟩) (h2.2 bk hb hbg (by simp))).trans hx)

set_option maxHeartbeats 4000000 in
set_option maxRecDepth 100000 in
theorem by_calls (A0 : Option Addr) (c0 : Nat) (l0 : List (List S28)) (A1 : Option Addr) (c1 : Nat) (l1 : List Int) (r1 : List (List S28)) (w : World)
    (hr0 : Kd.C (Kd.slice 28 k28) w A0 l0.length l0) (hc0 : l0.length ≤ c0) (hr1 : Kd.C (Kd.int .i64) w A1 l1.length l1) (hc1 : l1.length ≤ c1) (h : byF l0 l1 = some r1) :
    Calls Try.prog 11 #[.slice A0 l0.length c0, .slice A1 l1.length c1] w fun e w' => ∃ v, e = .returned v ∧ Kd.S (Kd.slice 28 k28) 26 w' w.heap.size (fun _ => True) v r1 ∧ Below w.heap.size w w' := by
  unfold byF at h
  have hg : l0.length ≤ 100000 ∧ shortRows l0 = true := Decidable.byContradiction (fun hg => by rw [if_neg hg] at h; cases h)
  rw [if_pos hg] at h
  have hr := Option.some.inj h
  obtain ⟨hl, hsh⟩ := hg
  obtain ⟨Hf, hH, hC⟩ := rows_hd hr0
  have hlen : ((List.range l0.length).map fun i => [hdr (Hf i)]).length = l0.length := by simp
  have hclone := cloneL_calls A0 c0 ((List.range l0.length).map fun i => [hdr (Hf i)]) w (by rw [hlen]; exact hC) (by rw [hlen]; omega)
  rw [hlen] at hclone
  have HCL := Aside0.mk hclone
  have HH := Aside0.mk hH
  have HR1 := Aside0.mk hr1
  have HSH := Aside0.mk hsh
  have HRES := Aside0.mk hr
  clear h hr hr0 hr1 hC hH hlen hclone hsh hc0
  go_enter Try.func11, Try.ntmps11
  go_upto_region 2 with (go_at_call 25; refine HCL.out.mono ?_; rintro e w2 ⟨v, rfl, ho, hb⟩; have HO := Aside0.mk ho; have HB2 := Aside0.mk hb; clear ho hb)
  rcases clone_block HO.out with ⟨hn, A, c, rfl⟩ | ⟨hn, g, cap, T, rfl, hBg, hnc, hcm, hT, hblk⟩
  · have hres : r1 = [] := by rw [← HRES.out, hn]; rfl
    have hnil : l0 = [] := List.eq_nil_of_length_eq_zero hn
    subst hres
    have HB3 := Aside0.mk (HB2.out.trans ((below_alloc (Below.refl w2.heap.size w2) (.cells #[.slice A1 l1.length c1] 23)).mono HB2.out.size))
    have HSN : Aside0 (Kd.S (Kd.slice 28 k28) 26 (w2.alloc (.cells #[.slice A1 l1.length c1] 23)) w.heap.size (fun _ => True) (.slice A 0 c) []) := ⟨by
      have h1 := HO.out
      rw [hn] at h1
      have h2 := Kd.R_below h1 (below_alloc (Below.refl w2.heap.size w2) (.cells #[.slice A1 l1.length c1] 23))
      obtain ⟨_, inner, ho, _⟩ := h2
      have hi : inner = [] := List.eq_nil_of_length_eq_zero (by have := ho.1; simpa using this)
      subst hi
      exact ⟨fun _ => 0, fun _ _ => trivial, [], ho, Reps.none _ _⟩⟩
    clear hn hnil HRES HSH HH HCL HO
    go_wp2_with (first
      | (go_at_call 27; refine (order_calls A1 l1.length c1 w2).mono ?_; rintro e w3 ⟨rfl, rfl⟩)
      | (go_at_call 26; refine (sortStable_zero _ _ _ _).mono ?_; rintro e w4 ⟨rfl, rfl⟩))
    go_loopw [6, 7, 16] (fun _ _ v16 wr => v16 = .int .i64 0 ∧ Aside0 (wr = w2.alloc (.cells #[.slice A1 l1.length c1] 23))) (fun _ _ _ _ => 0)
    case atStart => exact ⟨rfl, ⟨rfl⟩⟩
    case round =>
      obtain ⟨rfl, HW⟩ := hrel
      go_wp2
      go_ret
      have e := HW.out
      subst e
      exact ⟨_, rfl, HSN.out, HB3.out⟩
  · have HO2 := Aside0.mk (order_calls A1 l1.length c1 w2)
    obtain ⟨w0, hw0⟩ : ∃ w0, w0 = w2.alloc (.cells #[.slice A1 l1.length c1] 23) := ⟨_, rfl⟩
    have hB20 : Below w2.heap.size w2 w0 := by rw [hw0]; exact below_alloc (Below.refl w2.heap.size w2) _
    have hBw0 : Below w.heap.size w w0 := HB2.out.trans (hB20.mono HB2.out.size)
    have hgl : g < w2.heap.size := blk_lt hblk
    have hbk : w0.heap[w2.heap.size]? = some (.cells #[.slice A1 l1.length c1] 23 (0, 0)) := by rw [hw0]; exact blk_new w2 _
    have hblk0 := blk_below hblk hB20
    have hcmp : CmpOK w0 g Hf 44 #[.pointer (some ⟨w2.heap.size, 0, none⟩)] (cfRow l0 l1) :=
      cmp_ok HH.out hBw0 hBg HR1.out (blk_lt hbk) (by omega) ((blk_cell hbk 0).trans rfl)
    have hSR : SR w0 g Hf (List.range l0.length) w0 := ⟨⟨(List.range l0.length).map (fun i => hdr (Hf i)), T, by simp, hblk0, hblk0⟩, Below.refl _ _, KeepBut.refl _ _ _⟩
    have hsort := sortStable_calls (cfRow_ok l0 l1) Hf w0 g cap 44 #[.pointer (some ⟨w2.heap.size, 0, none⟩)] (fun _ _ => rfl) hcmp l0.length hl (List.range l0.length) (by simp) List.pairwise_lt_range w0 hSR
    rw [hw0] at hsort
    have HSORT := Aside0.mk hsort
    have HW0 := Aside0.mk hw0
    have HBW0 := Aside0.mk hBw0
    have HBLK0 := Aside0.mk hblk0
    have HT := Aside0.mk hT
    have HBG := Aside0.mk hBg
    have HNC := Aside0.mk hnc
    have HCM := Aside0.mk hcm
    clear hsort hSR hcmp hblk hbk hB20 hBw0 hw0 hgl hblk0 hT hBg hnc hcm HO HCL
    go_upto_region 3 with (first
      | (go_at_call 27; refine HO2.out.mono ?_; rintro e w3 ⟨rfl, rfl⟩)
      | (go_at_call 26; refine HSORT.out.mono ?_; rintro e w4 ⟨rfl, Z, hs4, hp4, hsr4⟩; have HSZ := Aside0.mk hs4; have HPZ := Aside0.mk hp4; have HSR := Aside0.mk hsr4; clear hs4 hp4 hsr4 HSORT HO2))
    have hZ := places_unique (cfRow_ok l0 l1) HSZ.out HPZ.out
    have hZl : Z.length = l0.length := by rw [HPZ.out.length_eq]; simp
    have hB0 : Below w.heap.size w w4 := by
      have := HSR.out
      rw [← HW0.out] at this
      exact HBW0.out.trans (this.below.mono HBG.out)
    have HB0 := Aside0.mk hB0
    have hBI : BI w.heap.size g T Hf Z (fun i => l0.getD i []) 0 w4 := by
      have h1 := HSR.out
      rw [← HW0.out] at h1
      obtain ⟨L0, T2, e1, e2, e3⟩ := h1.blk
      have e4 := HBLK0.out
      rw [e2] at e4
      injection e4 with e4
      injection e4 with e4 _ _
      have e5 : L0 ++ T2 = (List.range l0.length).map (fun i => hdr (Hf i)) ++ T := List.toArray_inj e4
      have e6 := (List.append_inj e5 (by rw [e1, hZl]; simp)).2
      subst e6
      exact ⟨[], fun _ => 0, rfl, by rw [List.drop_zero, List.nil_append]; exact e3, fun j u h => by simp at h⟩
    have HBI := Aside0.mk hBI
    have HZL := Aside0.mk hZl
    have HROW : Aside0 (Z.map (fun i => l0.getD i []) = r1) := ⟨by rw [← HRES.out, ← hZ]⟩
    clear hB0 hBI hZ hZl HSR HSZ HPZ HW0 HBW0 HBLK0
    go_wp2
    go_loopw [6, 7, 16] (fun _ _ v16 wr => ∃ i : Nat, v16 = .int .i64 i ∧ i ≤ l0.length ∧ Aside0 (BI w.heap.size g T Hf Z (fun i => l0.getD i []) i wr) ∧ Aside0 (Below w.heap.size w wr)) (fun _ _ v16 _ => l0.length - (intOf v16).toNat)
    case atStart => exact ⟨0, rfl, Nat.zero_le _, HBI, HB0⟩
    case round =>
      clear HBI HB0
      obtain ⟨i, rfl, hi, HBI, HB⟩ := hrel
      by_cases hlt : i < l0.length
      · have q2 : decide ((i : Int) < (l0.length : Int)) = true := decide_eq_true (by omega)
        have q3 : decide (i < l0.length) = true := decide_eq_true hlt
        have p1 : (0 ≤ (i : Int)) = True := eq_true (by omega)
        have p2 : ((i : Int) < (l0.length : Int)) = True := eq_true (by omega)
        have p3 : (i < l0.length) = True := eq_true hlt
        have hiZ : i < Z.length := by rw [HZL.out]; exact hlt
        have hx := HBI.out.cell hiZ
        have hHW := HH.out.below HB.out
        rw [hHW.eq] at hx
        have hcl := clone_calls (Hf (Z.getD i 0)).1 (Hf (Z.getD i 0)).2.2 (l0.getD (Z.getD i 0) []) wr (hHW.rd _) (shortRows_at HSH.out _)
        have HST : Aside0 (∀ w5 v5, Below wr.heap.size wr w5 → Kd.R k28 28 w5 wr.heap.size (fun _ => True) v5 (l0.getD (Z.getD i 0) []) → w5.frozen? ⟨g, i, none⟩ = false ∧ (∃ u, w5.cell? ⟨g, i, none⟩ = some u) ∧ BI w.heap.size g T Hf Z (fun i => l0.getD i []) (i + 1) (w5.setCell ⟨g, i, none⟩ v5) ∧ Below w.heap.size w (w5.setCell ⟨g, i, none⟩ v5)) :=
          ⟨fun w5 v5 hb5 ho5 => ⟨(HBI.out.below hb5).frozen i, ⟨_, (HBI.out.below hb5).cell hiZ⟩, HBI.out.step hiZ hb5 HB.out.size ho5, below_put (HB.out.trans (hb5.mono HB.out.size)) (p := ⟨g, i, none⟩) HBG.out⟩⟩
        generalize l0.getD (Z.getD i 0) [] = row at hx hcl HST
        generalize (Hf (Z.getD i 0)).1 = ra at hx hcl
        generalize (Hf (Z.getD i 0)).2.2 = rc at hx hcl
        have HCLN := Aside0.mk hcl
        clear hcl hHW hiZ
        go_wp2_with (go_at_call 28; (with_reducible refine HCLN.out.mono ?_); rintro e w5 ⟨v5, rfl, ho5, hb5⟩; obtain ⟨Av, cv, ev⟩ := Kd.R_slice ho5; subst ev; obtain ⟨hf5, ⟨u5, hc5⟩, hbi5, hbb5⟩ := HST.out w5 _ hb5 ho5; have HBI2 := Aside0.mk hbi5; have HB5 := Aside0.mk hbb5; clear ho5 hb5 hbi5 hbb5 HBI HB HCLN HST hx)
        go_roundw
        case rel => exact ⟨i + 1, by first | rfl | go_num, by omega, HBI2, HB5⟩
        case measure => simp only [intOf]; omega
      · have q2 : decide ((i : Int) < (l0.length : Int)) = false := decide_eq_false (by omega)
        have q3 : decide (i < l0.length) = false := decide_eq_false hlt
        have HFIN := Aside0.mk (HBI.out.fin (cap := cap) (by rw [HZL.out]; omega) HBG.out (by rw [HZL.out]; exact HNC.out) HCM.out (by rw [HZL.out]; exact HT.out))
        rw [HZL.out, HROW.out] at HFIN
        go_wp2
        go_ret
        exact ⟨_, rfl, HFIN.out, HB.out⟩
end Go.Proofs.Ythpoeljnmdjjiaa.PSrn
end
section
/-
  Sorting, by hand: slices.IsSortedFunc over sorted.order's closure; sorted.Rise.
-/
namespace Go.Proofs.Ythpoeljnmdjjiaa.PSrn
open Go.RowKit Go.Proofs.Ythpoeljnmdjjiaa.Hand Go.Proofs.Ythpoeljnmdjjiaa.Srt Go.Proofs.YthpoeljnmdjjiaaW.PrintWords Go.Proofs.YthpoeljnmdjjiaaW.PrintLast Go.Proofs.YthpoeljnmdjjiaaW.PrintMore
set_option linter.unusedVariables false
set_option linter.unusedSimpArgs false

/-- No row is ahead of the one before it. -/
def riseB (rows : List (List S28)) (key : List Int) : Bool := (List.range (rows.length - 1)).all fun j => !decide (cfRow rows key (j + 1) j < 0)
def riseF (rows : List (List S28)) (key : List Int) : Option Bool := some (riseB rows key)

set_option maxHeartbeats 2000000 in
set_option maxRecDepth 100000 in
theorem isSorted_calls (A : Option Addr) (c0 : Nat) (rows : List (List S28)) (Ak : Option Addr) (ck : Nat) (key : List Int) (bk : Nat) (w : World)
    (hr0 : Kd.C (Kd.slice 28 k28) w A rows.length rows) (hk : Kd.C (Kd.int .i64) w Ak key.length key) (hx : w.cell? ⟨bk, 0, none⟩ = some (.slice Ak key.length ck)) (hb : bk < w.heap.size) :
    Calls Try.prog 29 #[.slice A rows.length c0, .func (.func 44) #[] #[.pointer (some ⟨bk, 0, none⟩)]] w fun e w' => e = .returned (.bool (riseB rows key)) ∧ Below w.heap.size w w' := by
  have hl := hr0.2.1
  have HR := Aside0.mk hr0
  have HK := Aside0.mk hk
  have HX := Aside0.mk hx
  have HBK := Aside0.mk hb
  have HB := Aside0.mk (Below.refl w.heap.size w)
  have H0 : Aside0 (∀ j : Nat, (rows.length : Int) - 1 ≤ (j : Int) → j + 1 < rows.length → 0 ≤ cfRow rows key (j + 1) j) := ⟨fun j h1 h2 => by omega⟩
  have w1 : IntKind.i64.wrap ((rows.length : Int) - 1) = (rows.length : Int) - 1 := by rw [IntKind.wrap_i64]; omega
  have mixed := follows_mixed
  clear hr0 hk hx hb
  go_enter Try.func29, Try.ntmps29
  go_wp2
  go_loopw [5] (fun v5 wr => ∃ i : Int, v5 = .int .i64 i ∧ -1 ≤ i ∧ i < rows.length ∧ Aside0 (∀ j : Nat, i ≤ (j : Int) → j + 1 < rows.length → 0 ≤ cfRow rows key (j + 1) j) ∧ Aside0 (Below w.heap.size w wr)) (fun v5 _ => (intOf v5).toNat)
  case atStart => exact ⟨(rows.length : Int) - 1, by first | rfl | go_num, by omega, by omega, H0, HB⟩
  case round =>
    clear H0 HB w1
    obtain ⟨i, rfl, hi1, hi2, HF0, HB⟩ := hrel
    by_cases hpos : i > 0
    · obtain ⟨k, rfl⟩ : ∃ k : Nat, i = (k : Int) + 1 := ⟨(i - 1).toNat, by omega⟩
      have q1 : decide ((k : Int) + 1 > 0) = true := decide_eq_true (by omega)
      have q2 : decide (0 < (k : Int) + 1) = true := decide_eq_true (by omega)
      obtain ⟨ad, X1, X3, e, hx1, hcx, hCx⟩ := at_L3 HR.out ((k : Int) + 1) (by omega) (by omega)
      obtain ⟨ad', Y1, Y3, e', hy1, hcy, hCy⟩ := at_L3 HR.out (k : Int) (by omega) (by omega)
      rw [e] at e'
      cases e'
      subst e
      have hxr : rd_L3 rows ((k : Int) + 1) = rows.getD (k + 1) [] := by unfold rd_L3; rw [show ((k : Int) + 1).toNat = k + 1 by omega]
      have hyr : rd_L3 rows (k : Int) = rows.getD k [] := by unfold rd_L3; rw [Int.toNat_natCast]
      rw [hxr] at hx1 hcx hCx
      rw [hyr] at hy1 hcy hCy
      rw [show ((k : Int) + 1).toNat = k + 1 by omega, show ad.add (k + 1) = ⟨ad.block, ad.off + (k + 1), none⟩ by unfold Addr.add; rw [if_neg (by omega)]] at hx1
      rw [Int.toNat_natCast] at hy1
      have hcf : cfRow rows key (k + 1) k = cmpRow (rows.getD (k + 1) []) (rows.getD k []) key := rfl
      obtain ⟨v, hv⟩ : ∃ v, cfRow rows key (k + 1) k = v := ⟨_, rfl⟩
      rw [hv] at hcf
      generalize rows.getD (k + 1) [] = x at hx1 hcx hCx hcf
      generalize rows.getD k [] = y at hy1 hcy hCy hcf
      have HV := Aside0.mk hv
      have HC : Aside0 (∀ w1, Below wr.heap.size wr w1 → Calls Try.prog 44 #[.slice X1 x.length X3, .slice Y1 y.length Y3, .pointer (some ⟨bk, 0, none⟩)] w1 fun e w' => e = .returned (.int .i64 v) ∧ Below w1.heap.size w1 w') := ⟨fun w1 hw => by
        have hb1 : Below w.heap.size w w1 := HB.out.trans (hw.mono HB.out.size)
        rw [hcf]
        exact order1_calls X1 X3 x Y1 Y3 y Ak ck key bk w1 (Kd.C_below hCx hb1) hcx (Kd.C_below hCy hb1) hcy (Kd.C_below HK.out hb1) ((hb1.cell (p := ⟨bk, 0, none⟩) HBK.out).trans HX.out)⟩
      have HF : Aside0 (∀ w1, Below wr.heap.size wr w1 → w1.cell? ⟨ad.block, ad.off + (k + 1), none⟩ = some (.slice X1 x.length X3) ∧ w1.cell? (ad.add k) = some (.slice Y1 y.length Y3)) := ⟨fun w1 hw => by
        have hb1 : Below w.heap.size w w1 := HB.out.trans (hw.mono HB.out.size)
        exact ⟨(hb1.cell (World.block_lt_of_cell? w _ hx1)).trans hx1, (hb1.cell (World.block_lt_of_cell? w _ hy1)).trans hy1⟩⟩
      have HD := Aside0.mk (below_drew (Below.refl wr.heap.size wr))
      have p1 : (0 ≤ (k : Int) + 1) = True := eq_true (by omega)
      have p2 : ((k : Int) + 1 < (rows.length : Int)) = True := eq_true (by omega)
      have p3 : (0 ≤ (k : Int)) = True := eq_true (by omega)
      have p4 : ((k : Int) < (rows.length : Int)) = True := eq_true (by omega)
      have p5 : (k + 1 < rows.length) = True := eq_true (by omega)
      have p6 : (k < rows.length) = True := eq_true (by omega)
      have p7 : IntKind.i64.wrap (k : Int) = (k : Int) := by rw [IntKind.wrap_i64]; omega
      clear hx1 hy1 hcx hcy hCx hCy hcf hv hxr hyr
      go_upto_region 4 with (fail)
      refine start_ (n := 12) (S := fun w' => (w'.cell? ⟨ad.block, ad.off + (k + 1), none⟩ = some (.slice X1 x.length X3) ∧ w'.cell? (ad.add k) = some (.slice Y1 y.length Y3))) (ds := []) #[false, false, false, false, false, false, false, false, false, false, false, false] (by kernel_rfl) rfl rfl ((HF.out wr.drew HD.out)) (fun hHeld => ?_)
      refine pure_ (i := 0) (N := some 13) (v := ?_) (a' := ?_) #[true, false, false, false, false, false, false, false, false, false, false, false] rfl rfl (by kernel_rfl) (fun _ _ _ h => h) (Or.inl ⟨by rfl, ?_⟩) ?_ ?_
      rotate_left
      · intro w'
        go_simp
        with_reducible rfl
      rotate_left
      · simp only [Act.put, List.setIfInBounds_toArray, List.set_cons_zero, List.set_cons_succ]
        rfl
      refine pure_ (i := 1) (N := some 14) (v := ?_) (a' := ?_) #[true, true, false, false, false, false, false, false, false, false, false, false] rfl rfl (by kernel_rfl) (fun _ _ _ h => h) (Or.inl ⟨by rfl, ?_⟩) ?_ ?_
      rotate_left
      · intro w'
        go_simp
        with_reducible rfl
      rotate_left
      · simp only [Act.put, List.setIfInBounds_toArray, List.set_cons_zero, List.set_cons_succ]
        rfl
      refine pure_ (i := 2) (N := some 15) (v := ?_) (a' := ?_) #[true, true, true, false, false, false, false, false, false, false, false, false] rfl rfl (by kernel_rfl) (fun _ _ _ h => h) (Or.inl ⟨by rfl, ?_⟩) ?_ ?_
      rotate_left
      · intro w'
        go_simp
        with_reducible rfl
      rotate_left
      · simp only [Act.put, List.setIfInBounds_toArray, List.set_cons_zero, List.set_cons_succ]
        rfl
      refine pure_ (i := 3) (N := some 16) (v := ?_) (a' := ?_) #[true, true, true, true, false, false, false, false, false, false, false, false] rfl rfl (by kernel_rfl) (fun _ _ _ h => h) (Or.inl ⟨by rfl, ?_⟩) ?_ ?_
      rotate_left
      · intro w'
        go_simp
        with_reducible rfl
      rotate_left
      · simp only [Act.put, List.setIfInBounds_toArray, List.set_cons_zero, List.set_cons_succ]
        rfl
      refine take_ (i := 4) (N := some 17) (v := ?_) (a' := ?_) #[true, true, true, true, true, false, false, false, false, false, false, false] rfl rfl (by kernel_rfl) (fun _ _ _ h => h) (Or.inl ⟨by rfl, ?_⟩) hHeld ?_ ?_
      rotate_left
      · rintro w' ⟨s0, s1⟩
        go_simp
        with_reducible rfl
      rotate_left
      · simp only [Act.put, List.setIfInBounds_toArray, List.set_cons_zero, List.set_cons_succ]
        rfl
      refine pure_ (i := 5) (N := some 18) (v := ?_) (a' := ?_) #[true, true, true, true, true, true, false, false, false, false, false, false] rfl rfl (by kernel_rfl) (fun _ _ _ h => h) (Or.inl ⟨by rfl, ?_⟩) ?_ ?_
      rotate_left
      · intro w'
        go_simp
        with_reducible rfl
      rotate_left
      · simp only [Act.put, List.setIfInBounds_toArray, List.set_cons_zero, List.set_cons_succ]
        rfl
      refine pure_ (i := 6) (N := some 19) (v := ?_) (a' := ?_) #[true, true, true, true, true, true, true, false, false, false, false, false] rfl rfl (by kernel_rfl) (fun _ _ _ h => h) (Or.inl ⟨by rfl, ?_⟩) ?_ ?_
      rotate_left
      · intro w'
        go_simp
        with_reducible rfl
      rotate_left
      · simp only [Act.put, List.setIfInBounds_toArray, List.set_cons_zero, List.set_cons_succ]
        rfl
      refine pure_ (i := 7) (N := some 20) (v := ?_) (a' := ?_) #[true, true, true, true, true, true, true, true, false, false, false, false] rfl rfl (by kernel_rfl) (fun _ _ _ h => h) (Or.inl ⟨by rfl, ?_⟩) ?_ ?_
      rotate_left
      · intro w'
        go_simp
        with_reducible rfl
      rotate_left
      · simp only [Act.put, List.setIfInBounds_toArray, List.set_cons_zero, List.set_cons_succ]
        rfl
      refine pure_ (i := 8) (N := some 21) (v := ?_) (a' := ?_) #[true, true, true, true, true, true, true, true, true, false, false, false] rfl rfl (by kernel_rfl) (fun _ _ _ h => h) (Or.inl ⟨by rfl, ?_⟩) ?_ ?_
      rotate_left
      · intro w'
        go_simp
        with_reducible rfl
      rotate_left
      · simp only [Act.put, List.setIfInBounds_toArray, List.set_cons_zero, List.set_cons_succ]
        rfl
      refine take_ (i := 9) (N := some 22) (v := ?_) (a' := ?_) #[true, true, true, true, true, true, true, true, true, true, false, false] rfl rfl (by kernel_rfl) (fun _ _ _ h => h) (Or.inl ⟨by rfl, ?_⟩) hHeld ?_ ?_
      rotate_left
      · rintro w' ⟨s0, s1⟩
        go_simp
        with_reducible rfl
      rotate_left
      · simp only [Act.put, List.setIfInBounds_toArray, List.set_cons_zero, List.set_cons_succ]
        rfl
      refine one_ (i := 10) (N := some 23) #[true, true, true, true, true, true, true, true, true, true, true, false] rfl rfl (by kernel_rfl) (by decide) (fun K hK => ?_)
      refine call_ 44 (#[.slice X1 x.length X3, .slice Y1 y.length Y3, .pointer (some ⟨bk, 0, none⟩)]) (by rfl) rfl ?hrun ?_
      case hrun => first | (have he := ef; unfold execOp; simp [resolve, Deferred.ofValue, invoke, Act.eval, he]) | (unfold execOp; simp [resolve, Deferred.ofValue, invoke, Act.eval]; done) | rfl
      (with_reducible refine (HC.out _ HD.out).mono ?_)
      rintro e w4 ⟨rfl, hb4⟩
      have HB4 := Aside0.mk hb4
      clear hb4
      refine ⟨_, rfl, ?_⟩
      refine hK.out _ _ (HF.out w4 (HD.out.trans (HB4.out.mono HD.out.size))) (fun hHeld => ?_)
      clear hK K
      refine norm_ (a' := ?_) ?_ ?_
      rotate_left
      · show Act.put _ (some 23) _ = _
        simp only [Act.put, List.setIfInBounds_toArray, List.set_cons_zero, List.set_cons_succ]
        rfl
      refine pure_ (i := 11) (N := some 24) (v := ?_) (a' := ?_) #[true, true, true, true, true, true, true, true, true, true, true, true] rfl rfl (by kernel_rfl) (fun _ _ _ h => h) (Or.inl ⟨by rfl, ?_⟩) ?_ ?_
      rotate_left
      · intro w'
        go_simp
        with_reducible rfl
      rotate_left
      · simp only [Act.put, List.setIfInBounds_toArray, List.set_cons_zero, List.set_cons_succ]
        rfl
      refine done_ (by kernel_rfl) ?_
      have HB5 : Aside0 (Below w.heap.size w w4) := ⟨HB.out.trans ((HD.out.trans (HB4.out.mono HD.out.size)).mono HB.out.size)⟩
      clear HB4 HD HC hHeld HF
      by_cases hlt : v < 0
      · have q5 : decide (v < 0) = true := decide_eq_true hlt
        have HRES : Aside0 (riseB rows key = false) := ⟨by
          unfold riseB
          rw [← Bool.not_eq_true, List.all_eq_true]
          intro h
          have := h k (List.mem_range.2 (by omega))
          rw [HV.out, q5] at this
          cases this⟩
        rw [q5]
        have q6 : (v < 0) = True := eq_true hlt
        clear hlt
        go_wp2
        go_ret
        exact ⟨by rw [HRES.out]; rfl, HB5.out⟩
      · have q5 : decide (v < 0) = false := decide_eq_false hlt
        have HF1 : Aside0 (∀ j : Nat, (k : Int) ≤ (j : Int) → j + 1 < rows.length → 0 ≤ cfRow rows key (j + 1) j) := ⟨fun j h1 h2 => by
          rcases Nat.lt_or_ge k j with h3 | h3
          · exact HF0.out j (by omega) h2
          · obtain rfl : j = k := by omega
            rw [HV.out]; omega⟩
        rw [q5]
        have q6 : (v < 0) = False := eq_false hlt
        clear hlt
        go_wp2
        go_roundw
        case rel => exact ⟨(k : Int), by first | rfl | go_num, by omega, by omega, HF1, HB5⟩
        case measure => simp only [intOf]; omega
    · have q1 : decide (i > 0) = false := decide_eq_false hpos
      have q2 : decide (0 < i) = false := decide_eq_false hpos
      have HRES : Aside0 (riseB rows key = true) := ⟨by
        unfold riseB
        rw [List.all_eq_true]
        intro j hj
        rw [List.mem_range] at hj
        have := HF0.out j (by omega) (by omega)
        simpa using this⟩
      go_wp2
      go_ret
      exact ⟨by rw [HRES.out]; rfl, HB.out⟩

set_option maxRecDepth 100000 in
theorem rise_calls (A0 : Option Addr) (c0 : Nat) (l0 : List (List S28)) (A1 : Option Addr) (c1 : Nat) (l1 : List Int) (r1 : Bool) (w : World)
    (hr0 : Kd.C (Kd.slice 28 k28) w A0 l0.length l0) (hc0 : l0.length ≤ c0) (hr1 : Kd.C (Kd.int .i64) w A1 l1.length l1) (hc1 : l1.length ≤ c1) (h : riseF l0 l1 = some r1) :
    Calls Try.prog 12 #[.slice A0 l0.length c0, .slice A1 l1.length c1] w fun e w' => e = .returned (.bool r1) ∧ Below w.heap.size w w' := by
  unfold riseF at h
  have hr := Option.some.inj h
  subst hr
  have HO := Aside0.mk (order_calls A1 l1.length c1 w)
  have hb0 : Below w.heap.size w (w.alloc (.cells #[.slice A1 l1.length c1] 23)) := below_alloc (Below.refl w.heap.size w) _
  have hbk : (w.alloc (.cells #[.slice A1 l1.length c1] 23)).heap[w.heap.size]? = some (.cells #[.slice A1 l1.length c1] 23 (0, 0)) := blk_new w _
  have HS := Aside0.mk (isSorted_calls A0 c0 l0 A1 c1 l1 w.heap.size (w.alloc (.cells #[.slice A1 l1.length c1] 23)) (Kd.C_below hr0 hb0) (Kd.C_below hr1 hb0) ((blk_cell hbk 0).trans rfl) (blk_lt hbk))
  have HB0 := Aside0.mk hb0
  clear hr0 hr1 h hb0 hbk hc0 hc1
  go_enter Try.func12, Try.ntmps12
  go_wp2_with (first
    | (go_at_call 27; refine HO.out.mono ?_; rintro e w3 ⟨rfl, rfl⟩)
    | (go_at_call 29; refine HS.out.mono ?_; rintro e w4 ⟨rfl, hb4⟩; have HB4 := Aside0.mk (HB0.out.trans (hb4.mono HB0.out.size)); clear hb4))
  go_ret
  exact ⟨rfl, HB4.out⟩
end Go.Proofs.Ythpoeljnmdjjiaa.PSrn
end
