/-
  Sorting, by hand: slices.IsSortedFunc over sorted.order's closure; sorted.Rise.
-/
import Derived.Test.YthpoeljnmdjjiaaSvD
import Derived.Outline
namespace Go.Proofs.Ythpoeljnmdjjiaa.PSrn
open Go.RowKit Go.Proofs.Ythpoeljnmdjjiaa.Hand Go.Proofs.Ythpoeljnmdjjiaa.Srt Go.Proofs.YthpoeljnmdjjiaaW.PrintWords Go.Proofs.YthpoeljnmdjjiaaW.PrintLast Go.Proofs.YthpoeljnmdjjiaaW.PrintMore
set_option linter.unusedVariables false
set_option linter.unusedSimpArgs false

/-- No row is ahead of the one before it. -/
def riseB (rows : List (List S28)) (key : List Int) : Bool := (List.range (rows.length - 1)).all fun j => !decide (cfRow rows key (j + 1) j < 0)
def riseF (rows : List (List S28)) (key : List Int) : Option Bool := some (riseB rows key)

set_option maxHeartbeats 2000000 in
set_option maxRecDepth 100000 in
theorem isSorted_calls (A : Option Addr) (c0 : Nat) (rows : List (List S28)) (Ak : Option Addr) (ck : Nat) (key : List Int) (bk : Nat) (w : World)
    (hr0 : Kd.C (Kd.slice 28 k28) w A rows.length rows) (hk : Kd.C (Kd.int .i64) w Ak key.length key) (hx : w.cell? ⟨bk, 0, none⟩ = some (.slice Ak key.length ck)) (hb : bk < w.heap.size) :
    Calls Try.prog 29 #[.slice A rows.length c0, .func (.func 44) #[] #[.pointer (some ⟨bk, 0, none⟩)]] w fun e w' => e = .returned (.bool (riseB rows key)) ∧ Below w.heap.size w w' := by
  have hl := hr0.2.1
  have HR := Aside0.mk hr0
  have HK := Aside0.mk hk
  have HX := Aside0.mk hx
  have HBK := Aside0.mk hb
  have HB := Aside0.mk (Below.refl w.heap.size w)
  have H0 : Aside0 (∀ j : Nat, (rows.length : Int) - 1 ≤ (j : Int) → j + 1 < rows.length → 0 ≤ cfRow rows key (j + 1) j) := ⟨fun j h1 h2 => by omega⟩
  have w1 : IntKind.i64.wrap ((rows.length : Int) - 1) = (rows.length : Int) - 1 := by rw [IntKind.wrap_i64]; omega
  have mixed := follows_mixed
  clear hr0 hk hx hb
  go_enter Try.func29, Try.ntmps29
  go_wp2
  go_loopw [5] (fun v5 wr => ∃ i : Int, v5 = .int .i64 i ∧ -1 ≤ i ∧ i < rows.length ∧ Aside0 (∀ j : Nat, i ≤ (j : Int) → j + 1 < rows.length → 0 ≤ cfRow rows key (j + 1) j) ∧ Aside0 (Below w.heap.size w wr)) (fun v5 _ => (intOf v5).toNat)
  case atStart => exact ⟨(rows.length : Int) - 1, by first | rfl | go_num, by omega, by omega, H0, HB⟩
  case round =>
    clear H0 HB w1
    obtain ⟨i, rfl, hi1, hi2, HF0, HB⟩ := hrel
    by_cases hpos : i > 0
    · obtain ⟨k, rfl⟩ : ∃ k : Nat, i = (k : Int) + 1 := ⟨(i - 1).toNat, by omega⟩
      have q1 : decide ((k : Int) + 1 > 0) = true := decide_eq_true (by omega)
      have q2 : decide (0 < (k : Int) + 1) = true := decide_eq_true (by omega)
      obtain ⟨ad, X1, X3, e, hx1, hcx, hCx⟩ := at_L3 HR.out ((k : Int) + 1) (by omega) (by omega)
      obtain ⟨ad', Y1, Y3, e', hy1, hcy, hCy⟩ := at_L3 HR.out (k : Int) (by omega) (by omega)
      rw [e] at e'
      cases e'
      subst e
      have hxr : rd_L3 rows ((k : Int) + 1) = rows.getD (k + 1) [] := by unfold rd_L3; rw [show ((k : Int) + 1).toNat = k + 1 by omega]
      have hyr : rd_L3 rows (k : Int) = rows.getD k [] := by unfold rd_L3; rw [Int.toNat_natCast]
      rw [hxr] at hx1 hcx hCx
      rw [hyr] at hy1 hcy hCy
      rw [show ((k : Int) + 1).toNat = k + 1 by omega, show ad.add (k + 1) = ⟨ad.block, ad.off + (k + 1), none⟩ by unfold Addr.add; rw [if_neg (by omega)]] at hx1
      rw [Int.toNat_natCast] at hy1
      have hcf : cfRow rows key (k + 1) k = cmpRow (rows.getD (k + 1) []) (rows.getD k []) key := rfl
      obtain ⟨v, hv⟩ : ∃ v, cfRow rows key (k + 1) k = v := ⟨_, rfl⟩
      rw [hv] at hcf
      generalize rows.getD (k + 1) [] = x at hx1 hcx hCx hcf
      generalize rows.getD k [] = y at hy1 hcy hCy hcf
      have HV := Aside0.mk hv
      have HC : Aside0 (∀ w1, Below wr.heap.size wr w1 → Calls Try.prog 44 #[.slice X1 x.length X3, .slice Y1 y.length Y3, .pointer (some ⟨bk, 0, none⟩)] w1 fun e w' => e = .returned (.int .i64 v) ∧ Below w1.heap.size w1 w') := ⟨fun w1 hw => by
        have hb1 : Below w.heap.size w w1 := HB.out.trans (hw.mono HB.out.size)
        rw [hcf]
        exact order1_calls X1 X3 x Y1 Y3 y Ak ck key bk w1 (Kd.C_below hCx hb1) hcx (Kd.C_below hCy hb1) hcy (Kd.C_below HK.out hb1) ((hb1.cell (p := ⟨bk, 0, none⟩) HBK.out).trans HX.out)⟩
      have HF : Aside0 (∀ w1, Below wr.heap.size wr w1 → w1.cell? ⟨ad.block, ad.off + (k + 1), none⟩ = some (.slice X1 x.length X3) ∧ w1.cell? (ad.add k) = some (.slice Y1 y.length Y3)) := ⟨fun w1 hw => by
        have hb1 : Below w.heap.size w w1 := HB.out.trans (hw.mono HB.out.size)
        exact ⟨(hb1.cell (World.block_lt_of_cell? w _ hx1)).trans hx1, (hb1.cell (World.block_lt_of_cell? w _ hy1)).trans hy1⟩⟩
      have HD := Aside0.mk (below_drew (Below.refl wr.heap.size wr))
      have p1 : (0 ≤ (k : Int) + 1) = True := eq_true (by omega)
      have p2 : ((k : Int) + 1 < (rows.length : Int)) = True := eq_true (by omega)
      have p3 : (0 ≤ (k : Int)) = True := eq_true (by omega)
      have p4 : ((k : Int) < (rows.length : Int)) = True := eq_true (by omega)
      have p5 : (k + 1 < rows.length) = True := eq_true (by omega)
      have p6 : (k < rows.length) = True := eq_true (by omega)
      have p7 : IntKind.i64.wrap (k : Int) = (k : Int) := by rw [IntKind.wrap_i64]; omega
      clear hx1 hy1 hcx hcy hCx hCy hcf hv hxr hyr
      go_upto_region 4 with (fail)
      refine start_ (n := 12) (S := fun w' => (w'.cell? ⟨ad.block, ad.off + (k + 1), none⟩ = some (.slice X1 x.length X3) ∧ w'.cell? (ad.add k) = some (.slice Y1 y.length Y3))) (ds := []) #[false, false, false, false, false, false, false, false, false, false, false, false] (by kernel_rfl) rfl rfl ((HF.out wr.drew HD.out)) (fun hHeld => ?_)
      refine pure_ (i := 0) (N := some 13) (v := ?_) (a' := ?_) #[true, false, false, false, false, false, false, false, false, false, false, false] rfl rfl (by kernel_rfl) (fun _ _ _ h => h) (Or.inl ⟨by rfl, ?_⟩) ?_ ?_
      rotate_left
      · intro w'
        go_simp
        with_reducible rfl
      rotate_left
      · simp only [Act.put, List.setIfInBounds_toArray, List.set_cons_zero, List.set_cons_succ]
        rfl
      refine pure_ (i := 1) (N := some 14) (v := ?_) (a' := ?_) #[true, true, false, false, false, false, false, false, false, false, false, false] rfl rfl (by kernel_rfl) (fun _ _ _ h => h) (Or.inl ⟨by rfl, ?_⟩) ?_ ?_
      rotate_left
      · intro w'
        go_simp
        with_reducible rfl
      rotate_left
      · simp only [Act.put, List.setIfInBounds_toArray, List.set_cons_zero, List.set_cons_succ]
        rfl
      refine pure_ (i := 2) (N := some 15) (v := ?_) (a' := ?_) #[true, true, true, false, false, false, false, false, false, false, false, false] rfl rfl (by kernel_rfl) (fun _ _ _ h => h) (Or.inl ⟨by rfl, ?_⟩) ?_ ?_
      rotate_left
      · intro w'
        go_simp
        with_reducible rfl
      rotate_left
      · simp only [Act.put, List.setIfInBounds_toArray, List.set_cons_zero, List.set_cons_succ]
        rfl
      refine pure_ (i := 3) (N := some 16) (v := ?_) (a' := ?_) #[true, true, true, true, false, false, false, false, false, false, false, false] rfl rfl (by kernel_rfl) (fun _ _ _ h => h) (Or.inl ⟨by rfl, ?_⟩) ?_ ?_
      rotate_left
      · intro w'
        go_simp
        with_reducible rfl
      rotate_left
      · simp only [Act.put, List.setIfInBounds_toArray, List.set_cons_zero, List.set_cons_succ]
        rfl
      refine take_ (i := 4) (N := some 17) (v := ?_) (a' := ?_) #[true, true, true, true, true, false, false, false, false, false, false, false] rfl rfl (by kernel_rfl) (fun _ _ _ h => h) (Or.inl ⟨by rfl, ?_⟩) hHeld ?_ ?_
      rotate_left
      · rintro w' ⟨s0, s1⟩
        go_simp
        with_reducible rfl
      rotate_left
      · simp only [Act.put, List.setIfInBounds_toArray, List.set_cons_zero, List.set_cons_succ]
        rfl
      refine pure_ (i := 5) (N := some 18) (v := ?_) (a' := ?_) #[true, true, true, true, true, true, false, false, false, false, false, false] rfl rfl (by kernel_rfl) (fun _ _ _ h => h) (Or.inl ⟨by rfl, ?_⟩) ?_ ?_
      rotate_left
      · intro w'
        go_simp
        with_reducible rfl
      rotate_left
      · simp only [Act.put, List.setIfInBounds_toArray, List.set_cons_zero, List.set_cons_succ]
        rfl
      refine pure_ (i := 6) (N := some 19) (v := ?_) (a' := ?_) #[true, true, true, true, true, true, true, false, false, false, false, false] rfl rfl (by kernel_rfl) (fun _ _ _ h => h) (Or.inl ⟨by rfl, ?_⟩) ?_ ?_
      rotate_left
      · intro w'
        go_simp
        with_reducible rfl
      rotate_left
      · simp only [Act.put, List.setIfInBounds_toArray, List.set_cons_zero, List.set_cons_succ]
        rfl
      refine pure_ (i := 7) (N := some 20) (v := ?_) (a' := ?_) #[true, true, true, true, true, true, true, true, false, false, false, false] rfl rfl (by kernel_rfl) (fun _ _ _ h => h) (Or.inl ⟨by rfl, ?_⟩) ?_ ?_
      rotate_left
      · intro w'
        go_simp
        with_reducible rfl
      rotate_left
      · simp only [Act.put, List.setIfInBounds_toArray, List.set_cons_zero, List.set_cons_succ]
        rfl
      refine pure_ (i := 8) (N := some 21) (v := ?_) (a' := ?_) #[true, true, true, true, true, true, true, true, true, false, false, false] rfl rfl (by kernel_rfl) (fun _ _ _ h => h) (Or.inl ⟨by rfl, ?_⟩) ?_ ?_
      rotate_left
      · intro w'
        go_simp
        with_reducible rfl
      rotate_left
      · simp only [Act.put, List.setIfInBounds_toArray, List.set_cons_zero, List.set_cons_succ]
        rfl
      refine take_ (i := 9) (N := some 22) (v := ?_) (a' := ?_) #[true, true, true, true, true, true, true, true, true, true, false, false] rfl rfl (by kernel_rfl) (fun _ _ _ h => h) (Or.inl ⟨by rfl, ?_⟩) hHeld ?_ ?_
      rotate_left
      · rintro w' ⟨s0, s1⟩
        go_simp
        with_reducible rfl
      rotate_left
      · simp only [Act.put, List.setIfInBounds_toArray, List.set_cons_zero, List.set_cons_succ]
        rfl
      refine one_ (i := 10) (N := some 23) #[true, true, true, true, true, true, true, true, true, true, true, false] rfl rfl (by kernel_rfl) (by decide) (fun K hK => ?_)
      refine call_ 44 (#[.slice X1 x.length X3, .slice Y1 y.length Y3, .pointer (some ⟨bk, 0, none⟩)]) (by rfl) rfl ?hrun ?_
      case hrun => first | (have he := ef; unfold execOp; simp [resolve, Deferred.ofValue, invoke, Act.eval, he]) | (unfold execOp; simp [resolve, Deferred.ofValue, invoke, Act.eval]; done) | rfl
      (with_reducible refine (HC.out _ HD.out).mono ?_)
      rintro e w4 ⟨rfl, hb4⟩
      have HB4 := Aside0.mk hb4
      clear hb4
      refine ⟨_, rfl, ?_⟩
      refine hK.out _ _ (HF.out w4 (HD.out.trans (HB4.out.mono HD.out.size))) (fun hHeld => ?_)
      clear hK K
      refine norm_ (a' := ?_) ?_ ?_
      rotate_left
      · show Act.put _ (some 23) _ = _
        simp only [Act.put, List.setIfInBounds_toArray, List.set_cons_zero, List.set_cons_succ]
        rfl
      refine pure_ (i := 11) (N := some 24) (v := ?_) (a' := ?_) #[true, true, true, true, true, true, true, true, true, true, true, true] rfl rfl (by kernel_rfl) (fun _ _ _ h => h) (Or.inl ⟨by rfl, ?_⟩) ?_ ?_
      rotate_left
      · intro w'
        go_simp
        with_reducible rfl
      rotate_left
      · simp only [Act.put, List.setIfInBounds_toArray, List.set_cons_zero, List.set_cons_succ]
        rfl
      refine done_ (by kernel_rfl) ?_
      have HB5 : Aside0 (Below w.heap.size w w4) := ⟨HB.out.trans ((HD.out.trans (HB4.out.mono HD.out.size)).mono HB.out.size)⟩
      clear HB4 HD HC hHeld HF
      by_cases hlt : v < 0
      · have q5 : decide (v < 0) = true := decide_eq_true hlt
        have HRES : Aside0 (riseB rows key = false) := ⟨by
          unfold riseB
          rw [← Bool.not_eq_true, List.all_eq_true]
          intro h
          have := h k (List.mem_range.2 (by omega))
          rw [HV.out, q5] at this
          cases this⟩
        rw [q5]
        have q6 : (v < 0) = True := eq_true hlt
        clear hlt
        go_wp2
        go_ret
        exact ⟨by rw [HRES.out]; rfl, HB5.out⟩
      · have q5 : decide (v < 0) = false := decide_eq_false hlt
        have HF1 : Aside0 (∀ j : Nat, (k : Int) ≤ (j : Int) → j + 1 < rows.length → 0 ≤ cfRow rows key (j + 1) j) := ⟨fun j h1 h2 => by
          rcases Nat.lt_or_ge k j with h3 | h3
          · exact HF0.out j (by omega) h2
          · obtain rfl : j = k := by omega
            rw [HV.out]; omega⟩
        rw [q5]
        have q6 : (v < 0) = False := eq_false hlt
        clear hlt
        go_wp2
        go_roundw
        case rel => exact ⟨(k : Int), by first | rfl | go_num, by omega, by omega, HF1, HB5⟩
        case measure => simp only [intOf]; omega
    · have q1 : decide (i > 0) = false := decide_eq_false hpos
      have q2 : decide (0 < i) = false := decide_eq_false hpos
      have HRES : Aside0 (riseB rows key = true) := ⟨by
        unfold riseB
        rw [List.all_eq_true]
        intro j hj
        rw [List.mem_range] at hj
        have := HF0.out j (by omega) (by omega)
        simpa using this⟩
      go_wp2
      go_ret
      exact ⟨by rw [HRES.out]; rfl, HB.out⟩

set_option maxRecDepth 100000 in
theorem rise_calls (A0 : Option Addr) (c0 : Nat) (l0 : List (List S28)) (A1 : Option Addr) (c1 : Nat) (l1 : List Int) (r1 : Bool) (w : World)
    (hr0 : Kd.C (Kd.slice 28 k28) w A0 l0.length l0) (hc0 : l0.length ≤ c0) (hr1 : Kd.C (Kd.int .i64) w A1 l1.length l1) (hc1 : l1.length ≤ c1) (h : riseF l0 l1 = some r1) :
    Calls Try.prog 12 #[.slice A0 l0.length c0, .slice A1 l1.length c1] w fun e w' => e = .returned (.bool r1) ∧ Below w.heap.size w w' := by
  unfold riseF at h
  have hr := Option.some.inj h
  subst hr
  have HO := Aside0.mk (order_calls A1 l1.length c1 w)
  have hb0 : Below w.heap.size w (w.alloc (.cells #[.slice A1 l1.length c1] 23)) := below_alloc (Below.refl w.heap.size w) _
  have hbk : (w.alloc (.cells #[.slice A1 l1.length c1] 23)).heap[w.heap.size]? = some (.cells #[.slice A1 l1.length c1] 23 (0, 0)) := blk_new w _
  have HS := Aside0.mk (isSorted_calls A0 c0 l0 A1 c1 l1 w.heap.size (w.alloc (.cells #[.slice A1 l1.length c1] 23)) (Kd.C_below hr0 hb0) (Kd.C_below hr1 hb0) ((blk_cell hbk 0).trans rfl) (blk_lt hbk))
  have HB0 := Aside0.mk hb0
  clear hr0 hr1 h hb0 hbk hc0 hc1
  go_enter Try.func12, Try.ntmps12
  go_wp2_with (first
    | (go_at_call 27; refine HO.out.mono ?_; rintro e w3 ⟨rfl, rfl⟩)
    | (go_at_call 29; refine HS.out.mono ?_; rintro e w4 ⟨rfl, hb4⟩; have HB4 := Aside0.mk (HB0.out.trans (hb4.mono HB0.out.size)); clear hb4))
  go_ret
  exact ⟨rfl, HB4.out⟩
end Go.Proofs.Ythpoeljnmdjjiaa.PSrn
