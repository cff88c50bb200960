/-
  By hand: slices.MinFunc and MaxFunc over val.Compare; agg.one and its closure.
-/
import Derived.Test.YtedgfhijkkedaaaGrD
import Derived.Test.YtedgfhijkkedaaaHOrd
namespace Go.Proofs.Ytedgfhijkkedaaa.PAgg
open Go.RowKit Go.Proofs.YtedgfhijkkedaaaW.PrintWords Go.Proofs.YtedgfhijkkedaaaW.PrintLast Go.Proofs.YtedgfhijkkedaaaW.PrintMore
attribute [local go_sem] max2_int min2_int max_two min_two max_three min_three max_four min_four
set_option linter.unusedVariables false
set_option linter.unusedSimpArgs false
open Go.Proofs.Ytedgfhijkkedaaa.Hand (U cl ck cl_U u64 u64_U cmpI valCmp valMay strCmp)

theorem cmp64_f (a b : Int) : cmp_Compare_int64.f a b = some (cmpI a b) := by
  unfold cmp_Compare_int64.f cmp_isNaN_int64.f cmpI
  simp only [bne_self_eq_false, Option.bind_some]
  rw [if_neg (by simp), if_neg (by simp)]
  split
  · rfl
  · split <;> rfl
theorem cmpi_f (a b : Int) : cmp_Compare_int.f a b = some (cmpI a b) := by
  unfold cmp_Compare_int.f cmp_isNaN_int.f cmpI
  simp only [bne_self_eq_false, Option.bind_some]
  rw [if_neg (by simp), if_neg (by simp)]
  split
  · rfl
  · split <;> rfl
theorem fcmp_f {a b : Int} (ha : U a) (hb : U b) : flt_Compare.f a b = some (cmpI (ck a) (ck b)) := by
  unfold flt_Compare.f
  rw [show flt_Key.f a = some (ck a) from Hand.fltKey_f ha, show flt_Key.f b = some (ck b) from Hand.fltKey_f hb]
  simp only [Option.bind_some, cmpI]
  split
  · rfl
  · split <;> rfl
theorem vcmp_f (k1 i1 : Int) (s1 : ByteArray) (k2 i2 : Int) (s2 : ByteArray) : val_Compare.f k1 i1 s1 k2 i2 s2 = some (valCmp k1 i1 s1 k2 i2 s2) := by
  unfold val_Compare.f valCmp
  have := fcmp_f (u64_U i1) (u64_U i2)
  unfold u64 at this
  rw [cmp64_f, this, cmpi_f]
  unfold cmp_Compare_string.f
  simp only [Option.bind_some]
  unfold u64
  split
  · split
    · rfl
    · split
      · rfl
      · split <;> rfl
  · rfl
/-- The order of two values. -/
def cv (x y : S39) : Int := valCmp x.f0 x.f1 x.f2 y.f0 y.f1 y.f2
/-- The pick of a row: m, till a better one comes. -/
def pickB (b : S39 → S39 → Bool) : List S39 → S39 → S39
  | [], m => m
  | x :: t, m => pickB b t (if b x m = true then x else m)
def agV (x : S39) : Value := .agg #[.int .i64 x.f0, .int .i64 x.f1, .string x.f2]
theorem blk3 {W : World} {g t : Nat} {a b c : Value} (h : W.heap[g]? = some (.cells #[a, b, c] t (0, 0))) : W.cell? ⟨g, 0, none⟩ = some a ∧ W.cell? ⟨g, 1, none⟩ = some b ∧ W.cell? ⟨g, 2, none⟩ = some c :=
  ⟨(blk_cell h 0).trans rfl, (blk_cell h 1).trans rfl, (blk_cell h 2).trans rfl⟩

def minOf (l : List S39) : S39 := pickB (fun x m => decide (cv x m < 0)) (l.drop 1) (rd_T39 l 0)
set_option maxHeartbeats 8000000 in
set_option maxRecDepth 100000 in
theorem min_calls (A0 : Option Addr) (c0 : Nat) (l0 : List S39) (h0 : 0 < l0.length) (w : World) (hr0 : Kd.C k39 w A0 l0.length l0) :
    Calls Try.prog 36 #[.slice A0 l0.length c0, .func (.func 34) #[] #[]] w fun e w' => e = .returned (.agg #[.int .i64 (minOf l0).f0, .int .i64 (minOf l0).f1, .string (minOf l0).f2]) ∧ Below w.heap.size w w' := by
  have hl := hr0.2.1
  obtain ⟨ad, e0, hx0, hx1, hx2⟩ := at_T39 hr0 0 (by omega) (by omega)
  subst e0
  have hx0 : w.cell? ad = some (.int .i64 (rd_T39 l0 0).f0) := hx0
  have hx1 : w.cell? ⟨ad.block, ad.off + 1, none⟩ = some (.int .i64 (rd_T39 l0 0).f1) := hx1
  have hx2 : w.cell? ⟨ad.block, ad.off + 2, none⟩ = some (.string (rd_T39 l0 0).f2) := hx2
  have hlt : ad.block < w.heap.size := World.block_lt_of_cell? w _ hx0
  have HR0 := Aside0.mk hr0
  have H0 := Aside0.mk h0
  have p1 : (0 < (l0.length : Int)) = True := eq_true (by omega)
  have p2 : decide ((l0.length : Int) < 1) = false := decide_eq_false (by omega)
  have p3 : (0 < l0.length) = True := eq_true h0
  have p4 : decide (l0.length < 1) = false := decide_eq_false (by omega)
  have hu39 := Try.underlying39
  have HRES : Aside0 (pickB (fun x m => decide (cv x m < 0)) (l0.drop 1) (rd_T39 l0 0) = minOf l0) := ⟨rfl⟩
  generalize minOf l0 = RES at *
  clear hr0 h0
  go_enter Try.func36, Try.ntmps36
  go_wp2
  have HM1 : Aside0 (((w.alloc (.cells #[.int .i64 0, .int .i64 0, .string ⟨#[]⟩] 39)).alloc (.cells #[.int .i64 (rd_T39 l0 0).f0, .int .i64 (rd_T39 l0 0).f1, .string (rd_T39 l0 0).f2] 39)).heap[w.heap.size + 1]? = some (.cells #[.int .i64 (rd_T39 l0 0).f0, .int .i64 (rd_T39 l0 0).f1, .string (rd_T39 l0 0).f2] 39 (0, 0))) := ⟨by
    have := blk_new (w.alloc (.cells #[.int .i64 0, .int .i64 0, .string ⟨#[]⟩] 39)) (.cells #[.int .i64 (rd_T39 l0 0).f0, .int .i64 (rd_T39 l0 0).f1, .string (rd_T39 l0 0).f2] 39)
    rwa [show (w.alloc (.cells #[.int .i64 0, .int .i64 0, .string ⟨#[]⟩] 39)).heap.size = w.heap.size + 1 by simp] at this⟩
  have HB1 : Aside0 (Below w.heap.size w ((w.alloc (.cells #[.int .i64 0, .int .i64 0, .string ⟨#[]⟩] 39)).alloc (.cells #[.int .i64 (rd_T39 l0 0).f0, .int .i64 (rd_T39 l0 0).f1, .string (rd_T39 l0 0).f2] 39))) := ⟨below_alloc (below_alloc (Below.refl _ _) _) _⟩
  have HRB1 : Aside0 (((w.alloc (.cells #[.int .i64 0, .int .i64 0, .string ⟨#[]⟩] 39)).alloc (.cells #[.int .i64 (rd_T39 l0 0).f0, .int .i64 (rd_T39 l0 0).f1, .string (rd_T39 l0 0).f2] 39)).heap[w.heap.size]? = some (.cells #[.int .i64 0, .int .i64 0, .string ⟨#[]⟩] 39 (0, 0))) := ⟨blk_alloc (blk_new _ _) _⟩
  clear hx0 hx1 hx2 p2 p4
  go_loopw [6] (fun v6 wr => ∃ (i : Nat) (mv : S39), v6 = .int .i64 i ∧ 1 ≤ i ∧ i ≤ l0.length ∧ Aside0 (pickB (fun x m => decide (cv x m < 0)) (l0.drop i) mv = RES) ∧ Aside0 (wr.heap[w.heap.size + 1]? = some (.cells #[.int .i64 mv.f0, .int .i64 mv.f1, .string mv.f2] 39 (0, 0))) ∧ Aside0 (wr.heap[w.heap.size]? = some (.cells #[.int .i64 0, .int .i64 0, .string ⟨#[]⟩] 39 (0, 0))) ∧ Aside0 (Below w.heap.size w wr)) (fun v6 _ => l0.length - (intOf v6).toNat)
  case atStart => exact ⟨1, rd_T39 l0 0, rfl, Nat.le_refl _, H0.out, HRES, HM1, HRB1, HB1⟩
  case round =>
    clear HRES HM1 HRB1 HB1
    obtain ⟨i, mv, rfl, h1, hi, HF, HM, HRB, HB⟩ := hrel
    by_cases hlt2 : i < l0.length
    · have hrd := rd39 l0 i hlt2
      obtain ⟨ad2, e2, hy0, hy1, hy2⟩ := at_T39 HR0.out (i : Int) (by omega) (by omega)
      injection e2 with e2
      subst e2
      rw [Int.toNat_natCast, hrd] at hy0 hy1 hy2
      have HF2 := HF.out
      rw [List.drop_eq_getElem_cons hlt2] at HF2
      generalize l0[i] = x at *
      have HF3 : Aside0 (pickB (fun x m => decide (cv x m < 0)) (l0.drop (i + 1)) (if decide (cv x mv < 0) = true then x else mv) = RES) := ⟨HF2⟩
      have HV := Aside0.mk (vcmp_f x.f0 x.f1 x.f2 mv.f0 mv.f1 mv.f2)
      have HX : Aside0 (∀ w', Below w.heap.size w w' → w'.heap[w.heap.size + 1]? = some (.cells #[.int .i64 mv.f0, .int .i64 mv.f1, .string mv.f2] 39 (0, 0)) → (w'.cell? (ad.add (i * 3)) = some (.int .i64 x.f0) ∧ w'.cell? ⟨(ad.add (i * 3)).block, (ad.add (i * 3)).off + 1, none⟩ = some (.int .i64 x.f1) ∧ w'.cell? ⟨(ad.add (i * 3)).block, (ad.add (i * 3)).off + 2, none⟩ = some (.string x.f2) ∧ w'.cell? ⟨w.heap.size + 1, 0, none⟩ = some (.int .i64 mv.f0) ∧ w'.cell? ⟨w.heap.size + 1, 1, none⟩ = some (.int .i64 mv.f1) ∧ w'.cell? ⟨w.heap.size + 1, 2, none⟩ = some (.string mv.f2))) := ⟨fun w' hb hm => by
        obtain ⟨m0, m1, m2⟩ := blk3 hm
        exact ⟨(hb.cell (World.block_lt_of_cell? w _ hy0)).trans hy0, (hb.cell (World.block_lt_of_cell? w _ hy1)).trans hy1, (hb.cell (World.block_lt_of_cell? w _ hy2)).trans hy2, m0, m1, m2⟩⟩
      have HB3 := Aside0.mk (below_drew HB.out)
      have HMB3 : Aside0 (wr.drew.heap[w.heap.size + 1]? = some (.cells #[.int .i64 mv.f0, .int .i64 mv.f1, .string mv.f2] 39 (0, 0))) := ⟨HM.out⟩
      have HRB3 : Aside0 (wr.drew.heap[w.heap.size]? = some (.cells #[.int .i64 0, .int .i64 0, .string ⟨#[]⟩] 39 (0, 0))) := ⟨HRB.out⟩
      have Hlt2 := Aside0.mk hlt2
      have hib : i ≤ 9223372036854775806 := by omega
      have p2 : (0 ≤ (i : Int)) = True := eq_true (by omega)
      have q1 : ((i : Int) < (l0.length : Int)) = True := eq_true (by omega)
      have q2 : decide ((i : Int) < (l0.length : Int)) = true := decide_eq_true (by omega)
      have q3 : decide (i < l0.length) = true := decide_eq_true hlt2
      have q4 : (i < l0.length) = True := eq_true hlt2
      clear hy0 hy1 hy2 HF HF2 hrd HM HRB HB hlt2
      cases hbt : decide (cv x mv < 0) with
      | true =>
        go_wp2
        refine start_ (n := 8) (S := fun w' => (w'.cell? (ad.add (i * 3)) = some (.int .i64 x.f0) ∧ w'.cell? ⟨(ad.add (i * 3)).block, (ad.add (i * 3)).off + 1, none⟩ = some (.int .i64 x.f1) ∧ w'.cell? ⟨(ad.add (i * 3)).block, (ad.add (i * 3)).off + 2, none⟩ = some (.string x.f2) ∧ w'.cell? ⟨w.heap.size + 1, 0, none⟩ = some (.int .i64 mv.f0) ∧ w'.cell? ⟨w.heap.size + 1, 1, none⟩ = some (.int .i64 mv.f1) ∧ w'.cell? ⟨w.heap.size + 1, 2, none⟩ = some (.string mv.f2))) (ds := []) #[false, false, false, false, false, false, false, false] (by kernel_rfl) rfl rfl (HX.out wr.drew HB3.out HMB3.out) (fun hHeld => ?_)
        refine pure_ (i := 0) (N := some 20) (v := ?_) (a' := ?_) #[true, false, false, false, false, false, false, false] rfl rfl (by kernel_rfl) (fun _ _ _ h => h) (Or.inl ⟨by rfl, ?_⟩) ?_ ?_
        rotate_left
        · intro w'
          go_simp
          with_reducible rfl
        rotate_left
        · simp only [Act.put, List.setIfInBounds_toArray, List.set_cons_zero, List.set_cons_succ]
          rfl
        refine pure_ (i := 1) (N := some 21) (v := ?_) (a' := ?_) #[true, true, false, false, false, false, false, false] rfl rfl (by kernel_rfl) (fun _ _ _ h => h) (Or.inl ⟨by rfl, ?_⟩) ?_ ?_
        rotate_left
        · intro w'
          go_simp
          with_reducible rfl
        rotate_left
        · simp only [Act.put, List.setIfInBounds_toArray, List.set_cons_zero, List.set_cons_succ]
          rfl
        refine pure_ (i := 2) (N := some 22) (v := ?_) (a' := ?_) #[true, true, true, false, false, false, false, false] rfl rfl (by kernel_rfl) (fun _ _ _ h => h) (Or.inl ⟨by rfl, ?_⟩) ?_ ?_
        rotate_left
        · intro w'
          go_simp
          with_reducible rfl
        rotate_left
        · simp only [Act.put, List.setIfInBounds_toArray, List.set_cons_zero, List.set_cons_succ]
          rfl
        refine pure_ (i := 3) (N := some 23) (v := ?_) (a' := ?_) #[true, true, true, true, false, false, false, false] rfl rfl (by kernel_rfl) (fun _ _ _ h => h) (Or.inl ⟨by rfl, ?_⟩) ?_ ?_
        rotate_left
        · intro w'
          go_simp
          with_reducible rfl
        rotate_left
        · simp only [Act.put, List.setIfInBounds_toArray, List.set_cons_zero, List.set_cons_succ]
          rfl
        refine take_ (i := 4) (N := some 24) (v := ?_) (a' := ?_) #[true, true, true, true, true, false, false, false] rfl rfl (by kernel_rfl) (fun _ _ _ h => h) (Or.inl ⟨by rfl, ?_⟩) hHeld ?_ ?_
        rotate_left
        · rintro w' ⟨s0, s1, s2, s3, s4, s5⟩
          go_simp
          with_reducible rfl
        rotate_left
        · simp only [Act.put, List.setIfInBounds_toArray, List.set_cons_zero, List.set_cons_succ]
          rfl
        refine take_ (i := 5) (N := some 25) (v := ?_) (a' := ?_) #[true, true, true, true, true, true, false, false] rfl rfl (by kernel_rfl) (fun _ _ _ h => h) (Or.inl ⟨by rfl, ?_⟩) hHeld ?_ ?_
        rotate_left
        · rintro w' ⟨s0, s1, s2, s3, s4, s5⟩
          go_simp
          with_reducible rfl
        rotate_left
        · simp only [Act.put, List.setIfInBounds_toArray, List.set_cons_zero, List.set_cons_succ]
          rfl
        refine one_ (i := 6) (N := some 26) #[true, true, true, true, true, true, true, false] rfl rfl (by kernel_rfl) (by decide) (fun K hK => ?_)
        refine call_ 34 #[.agg #[.int .i64 x.f0, .int .i64 x.f1, .string x.f2], .agg #[.int .i64 mv.f0, .int .i64 mv.f1, .string mv.f2]] (by rfl) rfl ?hrun ?_
        case hrun => have he := enters_ (P := Try.prog) Try.func34 (by kernel_rfl) rfl; unfold execOp; simp [resolve, Deferred.ofValue, invoke, Act.eval, he]
        (with_reducible refine (val_Compare.calls _ _ _ _ _ _ (cv x mv) _ HV.out).mono ?_)
        rintro e w4 ⟨rfl, hb4⟩
        have HB4 := Aside0.mk (below_step HB3.out hb4)
        have HMB4 := Aside0.mk (blk_below HMB3.out hb4)
        have HRB4 := Aside0.mk (blk_below HRB3.out hb4)
        clear hb4
        refine ⟨_, rfl, ?_⟩
        refine hK.out _ _ (HX.out w4 HB4.out HMB4.out) (fun hHeld => ?_)
        clear hK K
        refine norm_ (a' := ?_) ?_ ?_
        rotate_left
        · show Act.put _ (some 26) _ = _
          simp only [Act.put, List.setIfInBounds_toArray, List.set_cons_zero, List.set_cons_succ]
          rfl
        refine pure_ (i := 7) (N := some 27) (v := ?_) (a' := ?_) #[true, true, true, true, true, true, true, true] rfl rfl (by kernel_rfl) (fun _ _ _ h => h) (Or.inl ⟨by rfl, ?_⟩) ?_ ?_
        rotate_left
        · intro w'
          go_simp
          with_reducible rfl
        rotate_left
        · simp only [Act.put, List.setIfInBounds_toArray, List.set_cons_zero, List.set_cons_succ]
          rfl
        refine done_ (by kernel_rfl) ?_
        obtain ⟨z0, z1, z2, z3, z4, z5⟩ := HX.out w4 HB4.out HMB4.out
        have f0 := blk_frozen HMB4.out 0
        have f1 := blk_frozen HMB4.out 1
        have f2 := blk_frozen HMB4.out 2
        rw [hbt, if_pos rfl] at HF3
        clear hHeld
        go_wp2
        go_roundw
        case rel => exact ⟨i + 1, x, by go_num, by omega, by have := Hlt2.out; omega, HF3, ⟨blk_put (cs := #[.int .i64 x.f0, .int .i64 x.f1, .string mv.f2]) (blk_put (cs := #[.int .i64 x.f0, .int .i64 mv.f1, .string mv.f2]) (blk_put HMB4.out 0 _ rfl) 1 _ rfl) 2 _ rfl⟩, ⟨blk_far (blk_far (blk_far HRB4.out (by simp) _) (by simp) _) (by simp) _⟩, ⟨below_set (below_set (below_set HB4.out (by simp)) (by simp)) (by simp)⟩⟩
        case measure => have := Hlt2.out; simp [intOf]; omega
      | false =>
        go_wp2
        refine start_ (n := 8) (S := fun w' => (w'.cell? (ad.add (i * 3)) = some (.int .i64 x.f0) ∧ w'.cell? ⟨(ad.add (i * 3)).block, (ad.add (i * 3)).off + 1, none⟩ = some (.int .i64 x.f1) ∧ w'.cell? ⟨(ad.add (i * 3)).block, (ad.add (i * 3)).off + 2, none⟩ = some (.string x.f2) ∧ w'.cell? ⟨w.heap.size + 1, 0, none⟩ = some (.int .i64 mv.f0) ∧ w'.cell? ⟨w.heap.size + 1, 1, none⟩ = some (.int .i64 mv.f1) ∧ w'.cell? ⟨w.heap.size + 1, 2, none⟩ = some (.string mv.f2))) (ds := []) #[false, false, false, false, false, false, false, false] (by kernel_rfl) rfl rfl (HX.out wr.drew HB3.out HMB3.out) (fun hHeld => ?_)
        refine pure_ (i := 0) (N := some 20) (v := ?_) (a' := ?_) #[true, false, false, false, false, false, false, false] rfl rfl (by kernel_rfl) (fun _ _ _ h => h) (Or.inl ⟨by rfl, ?_⟩) ?_ ?_
        rotate_left
        · intro w'
          go_simp
          with_reducible rfl
        rotate_left
        · simp only [Act.put, List.setIfInBounds_toArray, List.set_cons_zero, List.set_cons_succ]
          rfl
        refine pure_ (i := 1) (N := some 21) (v := ?_) (a' := ?_) #[true, true, false, false, false, false, false, false] rfl rfl (by kernel_rfl) (fun _ _ _ h => h) (Or.inl ⟨by rfl, ?_⟩) ?_ ?_
        rotate_left
        · intro w'
          go_simp
          with_reducible rfl
        rotate_left
        · simp only [Act.put, List.setIfInBounds_toArray, List.set_cons_zero, List.set_cons_succ]
          rfl
        refine pure_ (i := 2) (N := some 22) (v := ?_) (a' := ?_) #[true, true, true, false, false, false, false, false] rfl rfl (by kernel_rfl) (fun _ _ _ h => h) (Or.inl ⟨by rfl, ?_⟩) ?_ ?_
        rotate_left
        · intro w'
          go_simp
          with_reducible rfl
        rotate_left
        · simp only [Act.put, List.setIfInBounds_toArray, List.set_cons_zero, List.set_cons_succ]
          rfl
        refine pure_ (i := 3) (N := some 23) (v := ?_) (a' := ?_) #[true, true, true, true, false, false, false, false] rfl rfl (by kernel_rfl) (fun _ _ _ h => h) (Or.inl ⟨by rfl, ?_⟩) ?_ ?_
        rotate_left
        · intro w'
          go_simp
          with_reducible rfl
        rotate_left
        · simp only [Act.put, List.setIfInBounds_toArray, List.set_cons_zero, List.set_cons_succ]
          rfl
        refine take_ (i := 4) (N := some 24) (v := ?_) (a' := ?_) #[true, true, true, true, true, false, false, false] rfl rfl (by kernel_rfl) (fun _ _ _ h => h) (Or.inl ⟨by rfl, ?_⟩) hHeld ?_ ?_
        rotate_left
        · rintro w' ⟨s0, s1, s2, s3, s4, s5⟩
          go_simp
          with_reducible rfl
        rotate_left
        · simp only [Act.put, List.setIfInBounds_toArray, List.set_cons_zero, List.set_cons_succ]
          rfl
        refine take_ (i := 5) (N := some 25) (v := ?_) (a' := ?_) #[true, true, true, true, true, true, false, false] rfl rfl (by kernel_rfl) (fun _ _ _ h => h) (Or.inl ⟨by rfl, ?_⟩) hHeld ?_ ?_
        rotate_left
        · rintro w' ⟨s0, s1, s2, s3, s4, s5⟩
          go_simp
          with_reducible rfl
        rotate_left
        · simp only [Act.put, List.setIfInBounds_toArray, List.set_cons_zero, List.set_cons_succ]
          rfl
        refine one_ (i := 6) (N := some 26) #[true, true, true, true, true, true, true, false] rfl rfl (by kernel_rfl) (by decide) (fun K hK => ?_)
        refine call_ 34 #[.agg #[.int .i64 x.f0, .int .i64 x.f1, .string x.f2], .agg #[.int .i64 mv.f0, .int .i64 mv.f1, .string mv.f2]] (by rfl) rfl ?hrun ?_
        case hrun => have he := enters_ (P := Try.prog) Try.func34 (by kernel_rfl) rfl; unfold execOp; simp [resolve, Deferred.ofValue, invoke, Act.eval, he]
        (with_reducible refine (val_Compare.calls _ _ _ _ _ _ (cv x mv) _ HV.out).mono ?_)
        rintro e w4 ⟨rfl, hb4⟩
        have HB4 := Aside0.mk (below_step HB3.out hb4)
        have HMB4 := Aside0.mk (blk_below HMB3.out hb4)
        have HRB4 := Aside0.mk (blk_below HRB3.out hb4)
        clear hb4
        refine ⟨_, rfl, ?_⟩
        refine hK.out _ _ (HX.out w4 HB4.out HMB4.out) (fun hHeld => ?_)
        clear hK K
        refine norm_ (a' := ?_) ?_ ?_
        rotate_left
        · show Act.put _ (some 26) _ = _
          simp only [Act.put, List.setIfInBounds_toArray, List.set_cons_zero, List.set_cons_succ]
          rfl
        refine pure_ (i := 7) (N := some 27) (v := ?_) (a' := ?_) #[true, true, true, true, true, true, true, true] rfl rfl (by kernel_rfl) (fun _ _ _ h => h) (Or.inl ⟨by rfl, ?_⟩) ?_ ?_
        rotate_left
        · intro w'
          go_simp
          with_reducible rfl
        rotate_left
        · simp only [Act.put, List.setIfInBounds_toArray, List.set_cons_zero, List.set_cons_succ]
          rfl
        refine done_ (by kernel_rfl) ?_
        rw [hbt, if_neg (by simp)] at HF3
        clear hHeld
        go_wp2
        go_roundw
        case rel => exact ⟨i + 1, mv, by go_num, by omega, by have := Hlt2.out; omega, HF3, HMB4, HRB4, HB4⟩
        case measure => have := Hlt2.out; simp [intOf]; omega
    · have q2 : decide ((i : Int) < (l0.length : Int)) = false := decide_eq_false (by omega)
      have q3 : decide (i < l0.length) = false := decide_eq_false hlt2
      have HF2 := HF.out
      rw [List.drop_eq_nil_of_le (by omega)] at HF2
      replace HF2 : mv = RES := HF2
      subst HF2
      obtain ⟨m0, m1, m2⟩ := blk3 HM.out
      obtain ⟨n0, n1, n2⟩ := blk3 HRB.out
      have f0 := blk_frozen HRB.out 0
      have f1 := blk_frozen HRB.out 1
      have f2 := blk_frozen HRB.out 2
      clear HF hlt2
      go_wp2
      refine bodyPost_ret (results_cell_row rfl _ _ w.heap.size 39 #[.int .i64 mv.f0, .int .i64 mv.f1, .string mv.f2] (0, 0) _ rfl (blk_put (cs := #[.int .i64 mv.f0, .int .i64 mv.f1, .string ⟨#[]⟩]) (blk_put (cs := #[.int .i64 mv.f0, .int .i64 0, .string ⟨#[]⟩]) (blk_put HRB.out 0 _ rfl) 1 _ rfl) 2 _ rfl) hu39 rfl (by kernel_rfl)) rfl ⟨rfl, below_set (below_set (below_set HB.out (by simp)) (by simp)) (by simp)⟩

def maxOf (l : List S39) : S39 := pickB (fun x m => decide (cv x m > 0)) (l.drop 1) (rd_T39 l 0)
set_option maxHeartbeats 8000000 in
set_option maxRecDepth 100000 in
theorem max_calls (A0 : Option Addr) (c0 : Nat) (l0 : List S39) (h0 : 0 < l0.length) (w : World) (hr0 : Kd.C k39 w A0 l0.length l0) :
    Calls Try.prog 37 #[.slice A0 l0.length c0, .func (.func 34) #[] #[]] w fun e w' => e = .returned (.agg #[.int .i64 (maxOf l0).f0, .int .i64 (maxOf l0).f1, .string (maxOf l0).f2]) ∧ Below w.heap.size w w' := by
  have hl := hr0.2.1
  obtain ⟨ad, e0, hx0, hx1, hx2⟩ := at_T39 hr0 0 (by omega) (by omega)
  subst e0
  have hx0 : w.cell? ad = some (.int .i64 (rd_T39 l0 0).f0) := hx0
  have hx1 : w.cell? ⟨ad.block, ad.off + 1, none⟩ = some (.int .i64 (rd_T39 l0 0).f1) := hx1
  have hx2 : w.cell? ⟨ad.block, ad.off + 2, none⟩ = some (.string (rd_T39 l0 0).f2) := hx2
  have hlt : ad.block < w.heap.size := World.block_lt_of_cell? w _ hx0
  have HR0 := Aside0.mk hr0
  have H0 := Aside0.mk h0
  have p1 : (0 < (l0.length : Int)) = True := eq_true (by omega)
  have p2 : decide ((l0.length : Int) < 1) = false := decide_eq_false (by omega)
  have p3 : (0 < l0.length) = True := eq_true h0
  have p4 : decide (l0.length < 1) = false := decide_eq_false (by omega)
  have hu39 := Try.underlying39
  have HRES : Aside0 (pickB (fun x m => decide (cv x m > 0)) (l0.drop 1) (rd_T39 l0 0) = maxOf l0) := ⟨rfl⟩
  generalize maxOf l0 = RES at *
  clear hr0 h0
  go_enter Try.func37, Try.ntmps37
  go_wp2
  have HM1 : Aside0 (((w.alloc (.cells #[.int .i64 0, .int .i64 0, .string ⟨#[]⟩] 39)).alloc (.cells #[.int .i64 (rd_T39 l0 0).f0, .int .i64 (rd_T39 l0 0).f1, .string (rd_T39 l0 0).f2] 39)).heap[w.heap.size + 1]? = some (.cells #[.int .i64 (rd_T39 l0 0).f0, .int .i64 (rd_T39 l0 0).f1, .string (rd_T39 l0 0).f2] 39 (0, 0))) := ⟨by
    have := blk_new (w.alloc (.cells #[.int .i64 0, .int .i64 0, .string ⟨#[]⟩] 39)) (.cells #[.int .i64 (rd_T39 l0 0).f0, .int .i64 (rd_T39 l0 0).f1, .string (rd_T39 l0 0).f2] 39)
    rwa [show (w.alloc (.cells #[.int .i64 0, .int .i64 0, .string ⟨#[]⟩] 39)).heap.size = w.heap.size + 1 by simp] at this⟩
  have HB1 : Aside0 (Below w.heap.size w ((w.alloc (.cells #[.int .i64 0, .int .i64 0, .string ⟨#[]⟩] 39)).alloc (.cells #[.int .i64 (rd_T39 l0 0).f0, .int .i64 (rd_T39 l0 0).f1, .string (rd_T39 l0 0).f2] 39))) := ⟨below_alloc (below_alloc (Below.refl _ _) _) _⟩
  have HRB1 : Aside0 (((w.alloc (.cells #[.int .i64 0, .int .i64 0, .string ⟨#[]⟩] 39)).alloc (.cells #[.int .i64 (rd_T39 l0 0).f0, .int .i64 (rd_T39 l0 0).f1, .string (rd_T39 l0 0).f2] 39)).heap[w.heap.size]? = some (.cells #[.int .i64 0, .int .i64 0, .string ⟨#[]⟩] 39 (0, 0))) := ⟨blk_alloc (blk_new _ _) _⟩
  clear hx0 hx1 hx2 p2 p4
  go_loopw [6] (fun v6 wr => ∃ (i : Nat) (mv : S39), v6 = .int .i64 i ∧ 1 ≤ i ∧ i ≤ l0.length ∧ Aside0 (pickB (fun x m => decide (cv x m > 0)) (l0.drop i) mv = RES) ∧ Aside0 (wr.heap[w.heap.size + 1]? = some (.cells #[.int .i64 mv.f0, .int .i64 mv.f1, .string mv.f2] 39 (0, 0))) ∧ Aside0 (wr.heap[w.heap.size]? = some (.cells #[.int .i64 0, .int .i64 0, .string ⟨#[]⟩] 39 (0, 0))) ∧ Aside0 (Below w.heap.size w wr)) (fun v6 _ => l0.length - (intOf v6).toNat)
  case atStart => exact ⟨1, rd_T39 l0 0, rfl, Nat.le_refl _, H0.out, HRES, HM1, HRB1, HB1⟩
  case round =>
    clear HRES HM1 HRB1 HB1
    obtain ⟨i, mv, rfl, h1, hi, HF, HM, HRB, HB⟩ := hrel
    by_cases hlt2 : i < l0.length
    · have hrd := rd39 l0 i hlt2
      obtain ⟨ad2, e2, hy0, hy1, hy2⟩ := at_T39 HR0.out (i : Int) (by omega) (by omega)
      injection e2 with e2
      subst e2
      rw [Int.toNat_natCast, hrd] at hy0 hy1 hy2
      have HF2 := HF.out
      rw [List.drop_eq_getElem_cons hlt2] at HF2
      generalize l0[i] = x at *
      have HF3 : Aside0 (pickB (fun x m => decide (cv x m > 0)) (l0.drop (i + 1)) (if decide (cv x mv > 0) = true then x else mv) = RES) := ⟨HF2⟩
      have HV := Aside0.mk (vcmp_f x.f0 x.f1 x.f2 mv.f0 mv.f1 mv.f2)
      have HX : Aside0 (∀ w', Below w.heap.size w w' → w'.heap[w.heap.size + 1]? = some (.cells #[.int .i64 mv.f0, .int .i64 mv.f1, .string mv.f2] 39 (0, 0)) → (w'.cell? (ad.add (i * 3)) = some (.int .i64 x.f0) ∧ w'.cell? ⟨(ad.add (i * 3)).block, (ad.add (i * 3)).off + 1, none⟩ = some (.int .i64 x.f1) ∧ w'.cell? ⟨(ad.add (i * 3)).block, (ad.add (i * 3)).off + 2, none⟩ = some (.string x.f2) ∧ w'.cell? ⟨w.heap.size + 1, 0, none⟩ = some (.int .i64 mv.f0) ∧ w'.cell? ⟨w.heap.size + 1, 1, none⟩ = some (.int .i64 mv.f1) ∧ w'.cell? ⟨w.heap.size + 1, 2, none⟩ = some (.string mv.f2))) := ⟨fun w' hb hm => by
        obtain ⟨m0, m1, m2⟩ := blk3 hm
        exact ⟨(hb.cell (World.block_lt_of_cell? w _ hy0)).trans hy0, (hb.cell (World.block_lt_of_cell? w _ hy1)).trans hy1, (hb.cell (World.block_lt_of_cell? w _ hy2)).trans hy2, m0, m1, m2⟩⟩
      have HB3 := Aside0.mk (below_drew HB.out)
      have HMB3 : Aside0 (wr.drew.heap[w.heap.size + 1]? = some (.cells #[.int .i64 mv.f0, .int .i64 mv.f1, .string mv.f2] 39 (0, 0))) := ⟨HM.out⟩
      have HRB3 : Aside0 (wr.drew.heap[w.heap.size]? = some (.cells #[.int .i64 0, .int .i64 0, .string ⟨#[]⟩] 39 (0, 0))) := ⟨HRB.out⟩
      have Hlt2 := Aside0.mk hlt2
      have hib : i ≤ 9223372036854775806 := by omega
      have p2 : (0 ≤ (i : Int)) = True := eq_true (by omega)
      have q1 : ((i : Int) < (l0.length : Int)) = True := eq_true (by omega)
      have q2 : decide ((i : Int) < (l0.length : Int)) = true := decide_eq_true (by omega)
      have q3 : decide (i < l0.length) = true := decide_eq_true hlt2
      have q4 : (i < l0.length) = True := eq_true hlt2
      clear hy0 hy1 hy2 HF HF2 hrd HM HRB HB hlt2
      cases hbt : decide (cv x mv > 0) with
      | true =>
        go_wp2
        refine start_ (n := 8) (S := fun w' => (w'.cell? (ad.add (i * 3)) = some (.int .i64 x.f0) ∧ w'.cell? ⟨(ad.add (i * 3)).block, (ad.add (i * 3)).off + 1, none⟩ = some (.int .i64 x.f1) ∧ w'.cell? ⟨(ad.add (i * 3)).block, (ad.add (i * 3)).off + 2, none⟩ = some (.string x.f2) ∧ w'.cell? ⟨w.heap.size + 1, 0, none⟩ = some (.int .i64 mv.f0) ∧ w'.cell? ⟨w.heap.size + 1, 1, none⟩ = some (.int .i64 mv.f1) ∧ w'.cell? ⟨w.heap.size + 1, 2, none⟩ = some (.string mv.f2))) (ds := []) #[false, false, false, false, false, false, false, false] (by kernel_rfl) rfl rfl (HX.out wr.drew HB3.out HMB3.out) (fun hHeld => ?_)
        refine pure_ (i := 0) (N := some 20) (v := ?_) (a' := ?_) #[true, false, false, false, false, false, false, false] rfl rfl (by kernel_rfl) (fun _ _ _ h => h) (Or.inl ⟨by rfl, ?_⟩) ?_ ?_
        rotate_left
        · intro w'
          go_simp
          with_reducible rfl
        rotate_left
        · simp only [Act.put, List.setIfInBounds_toArray, List.set_cons_zero, List.set_cons_succ]
          rfl
        refine pure_ (i := 1) (N := some 21) (v := ?_) (a' := ?_) #[true, true, false, false, false, false, false, false] rfl rfl (by kernel_rfl) (fun _ _ _ h => h) (Or.inl ⟨by rfl, ?_⟩) ?_ ?_
        rotate_left
        · intro w'
          go_simp
          with_reducible rfl
        rotate_left
        · simp only [Act.put, List.setIfInBounds_toArray, List.set_cons_zero, List.set_cons_succ]
          rfl
        refine pure_ (i := 2) (N := some 22) (v := ?_) (a' := ?_) #[true, true, true, false, false, false, false, false] rfl rfl (by kernel_rfl) (fun _ _ _ h => h) (Or.inl ⟨by rfl, ?_⟩) ?_ ?_
        rotate_left
        · intro w'
          go_simp
          with_reducible rfl
        rotate_left
        · simp only [Act.put, List.setIfInBounds_toArray, List.set_cons_zero, List.set_cons_succ]
          rfl
        refine pure_ (i := 3) (N := some 23) (v := ?_) (a' := ?_) #[true, true, true, true, false, false, false, false] rfl rfl (by kernel_rfl) (fun _ _ _ h => h) (Or.inl ⟨by rfl, ?_⟩) ?_ ?_
        rotate_left
        · intro w'
          go_simp
          with_reducible rfl
        rotate_left
        · simp only [Act.put, List.setIfInBounds_toArray, List.set_cons_zero, List.set_cons_succ]
          rfl
        refine take_ (i := 4) (N := some 24) (v := ?_) (a' := ?_) #[true, true, true, true, true, false, false, false] rfl rfl (by kernel_rfl) (fun _ _ _ h => h) (Or.inl ⟨by rfl, ?_⟩) hHeld ?_ ?_
        rotate_left
        · rintro w' ⟨s0, s1, s2, s3, s4, s5⟩
          go_simp
          with_reducible rfl
        rotate_left
        · simp only [Act.put, List.setIfInBounds_toArray, List.set_cons_zero, List.set_cons_succ]
          rfl
        refine take_ (i := 5) (N := some 25) (v := ?_) (a' := ?_) #[true, true, true, true, true, true, false, false] rfl rfl (by kernel_rfl) (fun _ _ _ h => h) (Or.inl ⟨by rfl, ?_⟩) hHeld ?_ ?_
        rotate_left
        · rintro w' ⟨s0, s1, s2, s3, s4, s5⟩
          go_simp
          with_reducible rfl
        rotate_left
        · simp only [Act.put, List.setIfInBounds_toArray, List.set_cons_zero, List.set_cons_succ]
          rfl
        refine one_ (i := 6) (N := some 26) #[true, true, true, true, true, true, true, false] rfl rfl (by kernel_rfl) (by decide) (fun K hK => ?_)
        refine call_ 34 #[.agg #[.int .i64 x.f0, .int .i64 x.f1, .string x.f2], .agg #[.int .i64 mv.f0, .int .i64 mv.f1, .string mv.f2]] (by rfl) rfl ?hrun ?_
        case hrun => have he := enters_ (P := Try.prog) Try.func34 (by kernel_rfl) rfl; unfold execOp; simp [resolve, Deferred.ofValue, invoke, Act.eval, he]
        (with_reducible refine (val_Compare.calls _ _ _ _ _ _ (cv x mv) _ HV.out).mono ?_)
        rintro e w4 ⟨rfl, hb4⟩
        have HB4 := Aside0.mk (below_step HB3.out hb4)
        have HMB4 := Aside0.mk (blk_below HMB3.out hb4)
        have HRB4 := Aside0.mk (blk_below HRB3.out hb4)
        clear hb4
        refine ⟨_, rfl, ?_⟩
        refine hK.out _ _ (HX.out w4 HB4.out HMB4.out) (fun hHeld => ?_)
        clear hK K
        refine norm_ (a' := ?_) ?_ ?_
        rotate_left
        · show Act.put _ (some 26) _ = _
          simp only [Act.put, List.setIfInBounds_toArray, List.set_cons_zero, List.set_cons_succ]
          rfl
        refine pure_ (i := 7) (N := some 27) (v := ?_) (a' := ?_) #[true, true, true, true, true, true, true, true] rfl rfl (by kernel_rfl) (fun _ _ _ h => h) (Or.inl ⟨by rfl, ?_⟩) ?_ ?_
        rotate_left
        · intro w'
          go_simp
          with_reducible rfl
        rotate_left
        · simp only [Act.put, List.setIfInBounds_toArray, List.set_cons_zero, List.set_cons_succ]
          rfl
        refine done_ (by kernel_rfl) ?_
        obtain ⟨z0, z1, z2, z3, z4, z5⟩ := HX.out w4 HB4.out HMB4.out
        have f0 := blk_frozen HMB4.out 0
        have f1 := blk_frozen HMB4.out 1
        have f2 := blk_frozen HMB4.out 2
        rw [hbt, if_pos rfl] at HF3
        clear hHeld
        go_wp2
        go_roundw
        case rel => exact ⟨i + 1, x, by go_num, by omega, by have := Hlt2.out; omega, HF3, ⟨blk_put (cs := #[.int .i64 x.f0, .int .i64 x.f1, .string mv.f2]) (blk_put (cs := #[.int .i64 x.f0, .int .i64 mv.f1, .string mv.f2]) (blk_put HMB4.out 0 _ rfl) 1 _ rfl) 2 _ rfl⟩, ⟨blk_far (blk_far (blk_far HRB4.out (by simp) _) (by simp) _) (by simp) _⟩, ⟨below_set (below_set (below_set HB4.out (by simp)) (by simp)) (by simp)⟩⟩
        case measure => have := Hlt2.out; simp [intOf]; omega
      | false =>
        go_wp2
        refine start_ (n := 8) (S := fun w' => (w'.cell? (ad.add (i * 3)) = some (.int .i64 x.f0) ∧ w'.cell? ⟨(ad.add (i * 3)).block, (ad.add (i * 3)).off + 1, none⟩ = some (.int .i64 x.f1) ∧ w'.cell? ⟨(ad.add (i * 3)).block, (ad.add (i * 3)).off + 2, none⟩ = some (.string x.f2) ∧ w'.cell? ⟨w.heap.size + 1, 0, none⟩ = some (.int .i64 mv.f0) ∧ w'.cell? ⟨w.heap.size + 1, 1, none⟩ = some (.int .i64 mv.f1) ∧ w'.cell? ⟨w.heap.size + 1, 2, none⟩ = some (.string mv.f2))) (ds := []) #[false, false, false, false, false, false, false, false] (by kernel_rfl) rfl rfl (HX.out wr.drew HB3.out HMB3.out) (fun hHeld => ?_)
        refine pure_ (i := 0) (N := some 20) (v := ?_) (a' := ?_) #[true, false, false, false, false, false, false, false] rfl rfl (by kernel_rfl) (fun _ _ _ h => h) (Or.inl ⟨by rfl, ?_⟩) ?_ ?_
        rotate_left
        · intro w'
          go_simp
          with_reducible rfl
        rotate_left
        · simp only [Act.put, List.setIfInBounds_toArray, List.set_cons_zero, List.set_cons_succ]
          rfl
        refine pure_ (i := 1) (N := some 21) (v := ?_) (a' := ?_) #[true, true, false, false, false, false, false, false] rfl rfl (by kernel_rfl) (fun _ _ _ h => h) (Or.inl ⟨by rfl, ?_⟩) ?_ ?_
        rotate_left
        · intro w'
          go_simp
          with_reducible rfl
        rotate_left
        · simp only [Act.put, List.setIfInBounds_toArray, List.set_cons_zero, List.set_cons_succ]
          rfl
        refine pure_ (i := 2) (N := some 22) (v := ?_) (a' := ?_) #[true, true, true, false, false, false, false, false] rfl rfl (by kernel_rfl) (fun _ _ _ h => h) (Or.inl ⟨by rfl, ?_⟩) ?_ ?_
        rotate_left
        · intro w'
          go_simp
          with_reducible rfl
        rotate_left
        · simp only [Act.put, List.setIfInBounds_toArray, List.set_cons_zero, List.set_cons_succ]
          rfl
        refine pure_ (i := 3) (N := some 23) (v := ?_) (a' := ?_) #[true, true, true, true, false, false, false, false] rfl rfl (by kernel_rfl) (fun _ _ _ h => h) (Or.inl ⟨by rfl, ?_⟩) ?_ ?_
        rotate_left
        · intro w'
          go_simp
          with_reducible rfl
        rotate_left
        · simp only [Act.put, List.setIfInBounds_toArray, List.set_cons_zero, List.set_cons_succ]
          rfl
        refine take_ (i := 4) (N := some 24) (v := ?_) (a' := ?_) #[true, true, true, true, true, false, false, false] rfl rfl (by kernel_rfl) (fun _ _ _ h => h) (Or.inl ⟨by rfl, ?_⟩) hHeld ?_ ?_
        rotate_left
        · rintro w' ⟨s0, s1, s2, s3, s4, s5⟩
          go_simp
          with_reducible rfl
        rotate_left
        · simp only [Act.put, List.setIfInBounds_toArray, List.set_cons_zero, List.set_cons_succ]
          rfl
        refine take_ (i := 5) (N := some 25) (v := ?_) (a' := ?_) #[true, true, true, true, true, true, false, false] rfl rfl (by kernel_rfl) (fun _ _ _ h => h) (Or.inl ⟨by rfl, ?_⟩) hHeld ?_ ?_
        rotate_left
        · rintro w' ⟨s0, s1, s2, s3, s4, s5⟩
          go_simp
          with_reducible rfl
        rotate_left
        · simp only [Act.put, List.setIfInBounds_toArray, List.set_cons_zero, List.set_cons_succ]
          rfl
        refine one_ (i := 6) (N := some 26) #[true, true, true, true, true, true, true, false] rfl rfl (by kernel_rfl) (by decide) (fun K hK => ?_)
        refine call_ 34 #[.agg #[.int .i64 x.f0, .int .i64 x.f1, .string x.f2], .agg #[.int .i64 mv.f0, .int .i64 mv.f1, .string mv.f2]] (by rfl) rfl ?hrun ?_
        case hrun => have he := enters_ (P := Try.prog) Try.func34 (by kernel_rfl) rfl; unfold execOp; simp [resolve, Deferred.ofValue, invoke, Act.eval, he]
        (with_reducible refine (val_Compare.calls _ _ _ _ _ _ (cv x mv) _ HV.out).mono ?_)
        rintro e w4 ⟨rfl, hb4⟩
        have HB4 := Aside0.mk (below_step HB3.out hb4)
        have HMB4 := Aside0.mk (blk_below HMB3.out hb4)
        have HRB4 := Aside0.mk (blk_below HRB3.out hb4)
        clear hb4
        refine ⟨_, rfl, ?_⟩
        refine hK.out _ _ (HX.out w4 HB4.out HMB4.out) (fun hHeld => ?_)
        clear hK K
        refine norm_ (a' := ?_) ?_ ?_
        rotate_left
        · show Act.put _ (some 26) _ = _
          simp only [Act.put, List.setIfInBounds_toArray, List.set_cons_zero, List.set_cons_succ]
          rfl
        refine pure_ (i := 7) (N := some 27) (v := ?_) (a' := ?_) #[true, true, true, true, true, true, true, true] rfl rfl (by kernel_rfl) (fun _ _ _ h => h) (Or.inl ⟨by rfl, ?_⟩) ?_ ?_
        rotate_left
        · intro w'
          go_simp
          with_reducible rfl
        rotate_left
        · simp only [Act.put, List.setIfInBounds_toArray, List.set_cons_zero, List.set_cons_succ]
          rfl
        refine done_ (by kernel_rfl) ?_
        rw [hbt, if_neg (by simp)] at HF3
        clear hHeld
        go_wp2
        go_roundw
        case rel => exact ⟨i + 1, mv, by go_num, by omega, by have := Hlt2.out; omega, HF3, HMB4, HRB4, HB4⟩
        case measure => have := Hlt2.out; simp [intOf]; omega
    · have q2 : decide ((i : Int) < (l0.length : Int)) = false := decide_eq_false (by omega)
      have q3 : decide (i < l0.length) = false := decide_eq_false hlt2
      have HF2 := HF.out
      rw [List.drop_eq_nil_of_le (by omega)] at HF2
      replace HF2 : mv = RES := HF2
      subst HF2
      obtain ⟨m0, m1, m2⟩ := blk3 HM.out
      obtain ⟨n0, n1, n2⟩ := blk3 HRB.out
      have f0 := blk_frozen HRB.out 0
      have f1 := blk_frozen HRB.out 1
      have f2 := blk_frozen HRB.out 2
      clear HF hlt2
      go_wp2
      refine bodyPost_ret (results_cell_row rfl _ _ w.heap.size 39 #[.int .i64 mv.f0, .int .i64 mv.f1, .string mv.f2] (0, 0) _ rfl (blk_put (cs := #[.int .i64 mv.f0, .int .i64 mv.f1, .string ⟨#[]⟩]) (blk_put (cs := #[.int .i64 mv.f0, .int .i64 0, .string ⟨#[]⟩]) (blk_put HRB.out 0 _ rfl) 1 _ rfl) 2 _ rfl) hu39 rfl (by kernel_rfl)) rfl ⟨rfl, below_set (below_set (below_set HB.out (by simp)) (by simp)) (by simp)⟩
end Go.Proofs.Ytedgfhijkkedaaa.PAgg
