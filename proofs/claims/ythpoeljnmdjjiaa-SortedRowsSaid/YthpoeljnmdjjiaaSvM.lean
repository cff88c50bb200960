/-
  Sorting, by hand: the document's example (law16's shown).
-/
import Derived.Test.YthpoeljnmdjjiaaSvY
import Derived.Test.YthpoeljnmdjjiaaPSrnx10
namespace Go.Proofs.Ythpoeljnmdjjiaa.PSrn
open Go.RowKit Go.Proofs.Ythpoeljnmdjjiaa.Hand Go.Proofs.Ythpoeljnmdjjiaa.Srt Go.Proofs.YthpoeljnmdjjiaaW.PrintWords Go.Proofs.YthpoeljnmdjjiaaW.PrintLast Go.Proofs.YthpoeljnmdjjiaaW.PrintMore
set_option linter.unusedVariables false
set_option linter.unusedSimpArgs false

theorem same_l (x0 x1 : List S28) (hl : x0.length = x1.length) (h0 : x0.length ≤ 9223372036854775807) : ∀ (d k i : Nat), i + d = x0.length → d < k → ref05_Same.l0 k x0 x1 (i : Int) = some (eqRow (x0.drop i) (x1.drop i)) := by
  intro d
  induction d with
  | zero =>
    intro k i hi hk
    obtain ⟨k, rfl⟩ : ∃ m, k = m + 1 := ⟨k - 1, by omega⟩
    simp only [ref05_Same.l0]
    rw [if_neg (by omega), List.drop_eq_nil_of_le (show x0.length ≤ i by omega), List.drop_eq_nil_of_le (show x1.length ≤ i by omega)]
    rfl
  | succ d ih =>
    intro k i hi hk
    obtain ⟨k, rfl⟩ : ∃ m, k = m + 1 := ⟨k - 1, by omega⟩
    have g0 : i < x0.length := by omega
    have g1 : i < x1.length := by omega
    simp only [ref05_Same.l0]
    rw [if_pos (by omega), if_pos (by omega), if_pos (by omega), neq_f, rd28 _ _ g0, rd28 _ _ g1]
    rw [List.drop_eq_getElem_cons g0, List.drop_eq_getElem_cons g1]
    have hw : wrap64 ((i : Int) + 1) = ((i + 1 : Nat) : Int) := by unfold wrap64; omega
    unfold eqRow
    cases he : eqV x0[i] x1[i]
    · rfl
    · simp only [Bool.not_true, Bool.true_and, Bool.false_eq_true, if_false]
      rw [hw]
      exact ih k (i + 1) (by omega) (by omega)
theorem same_f (k : Nat) (x0 x1 : List S28) (h0 : x0.length ≤ 9223372036854775807) (hk : x0.length < k) : ref05_Same.f k x0 x1 = some (eqRow x0 x1) := by
  unfold ref05_Same.f
  by_cases hl : x0.length = x1.length
  · rw [if_pos (by omega)]
    have := same_l x0 x1 hl h0 x0.length k 0 (by omega) (by omega)
    simpa using this
  · rw [if_neg (by omega)]
    congr 1
    symm
    apply Bool.eq_false_iff.2
    intro h
    exact hl (eqRow_len _ _ h)
def prow (n : Int) (s : ByteArray) : List S28 := [⟨1, n, ⟨#[]⟩⟩, ⟨3, 0, s⟩]
def r2a : List S28 := prow 2 ⟨#[97]⟩
def r1b : List S28 := prow 1 ⟨#[98]⟩
def r2c : List S28 := prow 2 ⟨#[99]⟩
def l3 : List (List S28) := [r1b, r2a, r2c]
theorem by3 : byF [r2a, r1b, r2c] [0] = some l3 := by kernel_rfl
theorem rise3 : riseF l3 [0] = some true := by kernel_rfl
theorem bag3 : bagF l3 l3 = some true := by
  unfold bagF
  rw [if_pos ⟨by decide, by decide⟩, (bagB_iff l3 l3).2 (List.Perm.refl _)]
theorem same_ab : ref05_Same.f 9 r1b r1b = some true ∧ ref05_Same.f 9 r2a r2a = some true := by
  rw [same_f 9 r1b r1b (by decide) (by decide), same_f 9 r2a r2a (by decide) (by decide), eqRow_eq.2 rfl, eqRow_eq.2 rfl]
  exact ⟨rfl, rfl⟩
/-- A row of three rows, as it is made. -/
theorem lit3 {W : World} {g : Nat} {A1 A2 A3 : Option Addr} {c1 c2 c3 : Nat} {a b c : List S28} (h : W.heap[g]? = some (.cells #[.slice A1 a.length c1, .slice A2 b.length c2, .slice A3 c.length c3] 26 (0, 0)))
    (ha : Kd.C k28 W A1 a.length a) (hca : a.length ≤ c1) (hb : Kd.C k28 W A2 b.length b) (hcb : b.length ≤ c2) (hc : Kd.C k28 W A3 c.length c) (hcc : c.length ≤ c3) : Kd.C (Kd.slice 28 k28) W (some ⟨g, 0, none⟩) 3 [a, b, c] := by
  refine ⟨rfl, by decide, fun _ => ⟨_, rfl, fun j p hj => ?_⟩⟩
  have key : ∀ (u : Value) (cs : List Value), cs = [u] → (#[Value.slice A1 a.length c1, .slice A2 b.length c2, .slice A3 c.length c3] : Array Value)[j]? = some u → ∀ i x, cs[i]? = some x → W.cell? ((⟨g, 0, none⟩ : Addr).add (j * 1 + i)) = some x := by
    rintro u cs rfl hu i x hx
    cases i with
    | succ i => simp at hx
    | zero =>
      simp only [List.getElem?_cons_zero, Option.some.injEq] at hx
      subst hx
      rw [add_at, Nat.mul_one, Nat.add_zero, Nat.zero_add, blk_cell h]
      exact hu
  match j, hj with
  | 0, hj => simp only [List.getElem?_cons_zero, Option.some.injEq] at hj; subst hj; exact ⟨_, rfl, ⟨A1, c1, rfl, hca, ha⟩, key _ _ rfl rfl⟩
  | 1, hj => simp only [List.getElem?_cons_succ, List.getElem?_cons_zero, Option.some.injEq] at hj; subst hj; exact ⟨_, rfl, ⟨A2, c2, rfl, hcb, hb⟩, key _ _ rfl rfl⟩
  | 2, hj => simp only [List.getElem?_cons_succ, List.getElem?_cons_zero, Option.some.injEq] at hj; subst hj; exact ⟨_, rfl, ⟨A3, c3, rfl, hcc, hc⟩, key _ _ rfl rfl⟩
  | j + 3, hj => simp at hj
theorem lit1 {W : World} {g : Nat} {x : Int} (h : W.heap[g]? = some (.cells #[.int .i64 x] 3 (0, 0))) : Kd.C (Kd.int .i64) W (some ⟨g, 0, none⟩) 1 [x] := by
  refine ⟨rfl, by decide, fun _ => ⟨_, rfl, fun j p hj => ?_⟩⟩
  match j, hj with
  | 0, hj =>
    simp only [List.getElem?_cons_zero, Option.some.injEq] at hj
    subst hj
    refine ⟨[.int .i64 x], rfl, rfl, fun i u hu => ?_⟩
    cases i with
    | succ i => simp at hu
    | zero =>
      simp only [List.getElem?_cons_zero, Option.some.injEq] at hu
      subst hu
      show W.cell? ((⟨g, 0, none⟩ : Addr).add (0 * 1 + 0)) = _
      rw [add_at, blk_cell h]
      rfl
  | j + 1, hj => simp at hj
theorem prow_calls (n : Int) (s : ByteArray) (w : World) : Calls Try.prog 23 #[.int .i64 n, .string s] w fun e w' => ∃ v, e = .returned v ∧ Kd.R k28 28 w' w.heap.size (fun _ => True) v (prow n s) ∧ Below w.heap.size w w' := law16_pairRow.calls n s (prow n s) w rfl

theorem r2a_calls (w : World) : Calls Try.prog 23 #[.int .i64 2, .string ⟨#[97]⟩] w fun e w' => ∃ v, e = .returned v ∧ Kd.R k28 28 w' w.heap.size (fun _ => True) v r2a ∧ Below w.heap.size w w' := prow_calls 2 _ w
theorem r1b_calls (w : World) : Calls Try.prog 23 #[.int .i64 1, .string ⟨#[98]⟩] w fun e w' => ∃ v, e = .returned v ∧ Kd.R k28 28 w' w.heap.size (fun _ => True) v r1b ∧ Below w.heap.size w w' := prow_calls 1 _ w
theorem r2c_calls (w : World) : Calls Try.prog 23 #[.int .i64 2, .string ⟨#[99]⟩] w fun e w' => ∃ v, e = .returned v ∧ Kd.R k28 28 w' w.heap.size (fun _ => True) v r2c ∧ Below w.heap.size w w' := prow_calls 2 _ w

set_option maxHeartbeats 4000000 in
set_option maxRecDepth 100000 in
theorem shown_calls (w : World) : Calls Try.prog 9 #[] w fun e w' => e = .returned (.bool true) ∧ Below w.heap.size w w' := by
  have HP1 := Aside0.mk (r2a_calls w)
  have HP2 := Aside0.mk r1b_calls
  have HP3 := Aside0.mk r2c_calls
  have HP := Aside0.mk r1b_calls
  go_enter Try.func9, Try.ntmps9
  go_wp2_with (first
    | (go_at_call 23; refine HP1.out.mono ?_; rintro e w1 ⟨v1, rfl, ho1, hb1⟩; obtain ⟨R1, R3, er⟩ := Kd.R_slice ho1; subst er; have HO1 := Aside0.mk ho1; have HB1 := Aside0.mk hb1; clear ho1 hb1 HP1)
    | (go_at_call 23; refine (HP2.out _).mono ?_; rintro e w2 ⟨v2, rfl, ho2, hb2⟩; obtain ⟨S1, S3, es⟩ := Kd.R_slice ho2; subst es; have HO2 := Aside0.mk ho2; have HB2 := Aside0.mk hb2; clear ho2 hb2 HP2)
    | (go_at_call 23; refine (HP3.out _).mono ?_; rintro e w3 ⟨v3, rfl, ho3, hb3⟩; obtain ⟨T1, T3, et⟩ := Kd.R_slice ho3; subst et; have HO3 := Aside0.mk ho3; have HB3 := Aside0.mk hb3; clear ho3 hb3 HP3))
  have hb0 : Below w3.heap.size w3 ((w3.alloc (.cells #[.slice R1 r2a.length R3, .slice S1 r1b.length S3, .slice T1 r2c.length T3] 26)).alloc (.cells #[.int .i64 0] 3)) := below_alloc (below_alloc (Below.refl w3.heap.size w3) _) _
  have hk1 := blk_below (blk_new w3 (.cells #[.slice R1 r2a.length R3, .slice S1 r1b.length S3, .slice T1 r2c.length T3] 26)) (below_alloc (Below.refl _ (w3.alloc (.cells #[.slice R1 r2a.length R3, .slice S1 r1b.length S3, .slice T1 r2c.length T3] 26))) (.cells #[.int .i64 0] 3))
  have hk2 := blk_new (w3.alloc (.cells #[.slice R1 r2a.length R3, .slice S1 r1b.length S3, .slice T1 r2c.length T3] 26)) (.cells #[.int .i64 0] 3)
  have hsz : (w3.alloc (.cells #[.slice R1 r2a.length R3, .slice S1 r1b.length S3, .slice T1 r2c.length T3] 26)).heap.size = w3.heap.size + 1 := by simp
  rw [hsz] at hk2
  generalize (w3.alloc (.cells #[.slice R1 r2a.length R3, .slice S1 r1b.length S3, .slice T1 r2c.length T3] 26)).alloc (.cells #[.int .i64 0] 3) = W at *
  have h23 : Below w2.heap.size w2 W := HB3.out.trans (hb0.mono HB3.out.size)
  have h13 : Below w1.heap.size w1 W := HB2.out.trans (h23.mono HB2.out.size)
  have h03 : Below w.heap.size w W := HB1.out.trans (h13.mono HB1.out.size)
  have g1 := Kd.R_reads' (Kd.R_below HO1.out h13)
  have g2 := Kd.R_reads' (Kd.R_below HO2.out h23)
  have g3 := Kd.R_reads' (Kd.R_below HO3.out hb0)
  have hby : Calls Try.prog 11 #[.slice (some ⟨w3.heap.size, 0, none⟩) 3 3, .slice (some ⟨w3.heap.size + 1, 0, none⟩) 1 1] W (fun e w' => ∃ v, e = .returned v ∧ Kd.S (Kd.slice 28 k28) 26 w' W.heap.size (fun _ => True) v l3 ∧ Below W.heap.size W w') := by_calls (some ⟨w3.heap.size, 0, none⟩) 3 [r2a, r1b, r2c] (some ⟨w3.heap.size + 1, 0, none⟩) 1 [0] l3 W (lit3 hk1 g1.2.2 g1.2.1 g2.2.2 g2.2.1 g3.2.2 g3.2.1) (by decide) (lit1 hk2) (by decide) by3
  (with_reducible refine hby.mono ?_)
  rintro e w4 ⟨v4, rfl, ho4, hb4⟩
  obtain ⟨Al, L3, el⟩ := Kd.R_slice (Kd.S_R ho4)
  subst el
  have hl4 := Kd.R_reads' (Kd.S_R ho4)
  have h04 : Below w.heap.size w w4 := h03.trans (hb4.mono h03.size)
  have g4 := Kd.R_reads' (Kd.R_below HO1.out (h13.trans (hb4.mono h13.size)))
  obtain ⟨ad, X1, X3, e, hx1, hcx, hCx⟩ := at_L3 hl4.2.2 0 (by decide) (by decide)
  subst e
  obtain ⟨ad', Y1, Y3, e, hy1, hcy, hCy⟩ := at_L3 hl4.2.2 1 (by decide) (by decide)
  cases e
  change w4.cell? (ad.add 0) = some (.slice X1 r1b.length X3) at hx1
  change w4.cell? (ad.add 1) = some (.slice Y1 r2a.length Y3) at hy1
  change r1b.length ≤ X3 at hcx
  change r2a.length ≤ Y3 at hcy
  change Kd.C k28 w4 X1 r1b.length r1b at hCx
  change Kd.C k28 w4 Y1 r2a.length r2a at hCy
  rw [Addr.add_zero'] at hx1
  rw [show ad.add 1 = ⟨ad.block, ad.off + 1, none⟩ by unfold Addr.add; rw [if_neg (by decide)]] at hy1
  have HL : Aside0 (Kd.C (Kd.slice 28 k28) w4 (some ad) l3.length l3) := ⟨hl4.2.2⟩
  have HLL : Aside0 (l3.length ≤ L3) := ⟨hl4.2.1⟩
  have HX := Aside0.mk hCx
  have HXL := Aside0.mk hcx
  have HY := Aside0.mk hCy
  have HYL := Aside0.mk hcy
  have HR := Aside0.mk g4.2.2
  have HRL := Aside0.mk g4.2.1
  have HSM := Aside0.mk same_ab
  have HB4 := Aside0.mk h04
  have HF : Aside0 (∀ w1, Below w4.heap.size w4 w1 → w1.cell? ad = some (.slice X1 r1b.length X3) ∧ w1.cell? ⟨ad.block, ad.off + 1, none⟩ = some (.slice Y1 r2a.length Y3)) :=
    ⟨fun w1 hw => ⟨(hw.cell (World.block_lt_of_cell? w4 _ hx1)).trans hx1, (hw.cell (World.block_lt_of_cell? w4 _ hy1)).trans hy1⟩⟩
  have HD := Aside0.mk (below_drew (Below.refl w4.heap.size w4))
  have p1 : (0 < l3.length) = True := eq_true (by decide)
  have p2 : (1 < l3.length) = True := eq_true (by decide)
  have p3 : ((l3.length : Int) == 3) = true := by decide
  have p4 : decide ((l3.length : Int) = 3) = true := by decide
  have p5 : ((0 : Int) < (l3.length : Int)) = True := eq_true (by decide)
  have p6 : ((1 : Int) < (l3.length : Int)) = True := eq_true (by decide)
  have p7 : (l3.length == 3) = true := by decide
  clear hb0 hk1 hk2 hsz h23 h13 h03 g1 g2 g3 g4 hby ho4 hb4 hl4 h04 hx1 hy1 hcx hcy hCx hCy HO1 HO2 HO3 HB1 HB2 HB3
  go_upto_region 3 with (fail)
  refine start_ (n := 28) (S := fun w' => (w'.cell? ad = some (.slice X1 r1b.length X3) ∧ w'.cell? ⟨ad.block, ad.off + 1, none⟩ = some (.slice Y1 r2a.length Y3))) (ds := []) #[false, false, false, false, false, false, false, false, false, false, false, false, false, false, false, false, false, false, false, false, false, false, false, false, false, false, false, false] (by kernel_rfl) rfl rfl (HF.out w4.drew HD.out) (fun hHeld => ?_)
  refine pure_ (i := 0) (N := some 10) (v := ?_) (a' := ?_) #[true, false, false, false, false, false, false, false, false, false, false, false, false, false, false, false, false, false, false, false, false, false, false, false, false, false, false, false] rfl rfl (by kernel_rfl) (fun _ _ _ h => h) (Or.inl ⟨by rfl, ?_⟩) ?_ ?_
  rotate_left
  · intro w'
    go_simp
    with_reducible rfl
  rotate_left
  · simp only [Act.put, List.setIfInBounds_toArray, List.set_cons_zero, List.set_cons_succ]
    rfl
  refine pure_ (i := 1) (N := some 11) (v := ?_) (a' := ?_) #[true, true, false, false, false, false, false, false, false, false, false, false, false, false, false, false, false, false, false, false, false, false, false, false, false, false, false, false] rfl rfl (by kernel_rfl) (fun _ _ _ h => h) (Or.inl ⟨by rfl, ?_⟩) ?_ ?_
  rotate_left
  · intro w'
    go_simp
    with_reducible rfl
  rotate_left
  · simp only [Act.put, List.setIfInBounds_toArray, List.set_cons_zero, List.set_cons_succ]
    rfl
  refine pure_ (i := 2) (N := some 12) (v := ?_) (a' := ?_) #[true, true, true, false, false, false, false, false, false, false, false, false, false, false, false, false, false, false, false, false, false, false, false, false, false, false, false, false] rfl rfl (by kernel_rfl) (fun _ _ _ h => h) (Or.inl ⟨by rfl, ?_⟩) ?_ ?_
  rotate_left
  · intro w'
    go_simp
    with_reducible rfl
  rotate_left
  · simp only [Act.put, List.setIfInBounds_toArray, List.set_cons_zero, List.set_cons_succ]
    rfl
  refine pure_ (i := 3) (N := some 13) (v := ?_) (a' := ?_) #[true, true, true, true, false, false, false, false, false, false, false, false, false, false, false, false, false, false, false, false, false, false, false, false, false, false, false, false] rfl rfl (by kernel_rfl) (fun _ _ _ h => h) (Or.inl ⟨by rfl, ?_⟩) ?_ ?_
  rotate_left
  · intro w'
    go_simp
    with_reducible rfl
  rotate_left
  · simp only [Act.put, List.setIfInBounds_toArray, List.set_cons_zero, List.set_cons_succ]
    rfl
  refine pure_ (i := 4) (N := some 14) (v := ?_) (a' := ?_) #[true, true, true, true, true, false, false, false, false, false, false, false, false, false, false, false, false, false, false, false, false, false, false, false, false, false, false, false] rfl rfl (by kernel_rfl) (fun _ _ _ h => h) (Or.inl ⟨by rfl, ?_⟩) ?_ ?_
  rotate_left
  · intro w'
    go_simp
    with_reducible rfl
  rotate_left
  · simp only [Act.put, List.setIfInBounds_toArray, List.set_cons_zero, List.set_cons_succ]
    rfl
  refine pure_ (i := 5) (N := some 15) (v := ?_) (a' := ?_) #[true, true, true, true, true, true, false, false, false, false, false, false, false, false, false, false, false, false, false, false, false, false, false, false, false, false, false, false] rfl rfl (by kernel_rfl) (fun _ _ _ h => h) (Or.inl ⟨by rfl, ?_⟩) ?_ ?_
  rotate_left
  · intro w'
    go_simp
    with_reducible rfl
  rotate_left
  · simp only [Act.put, List.setIfInBounds_toArray, List.set_cons_zero, List.set_cons_succ]
    rfl
  refine take_ (i := 6) (N := some 16) (v := ?_) (a' := ?_) #[true, true, true, true, true, true, true, false, false, false, false, false, false, false, false, false, false, false, false, false, false, false, false, false, false, false, false, false] rfl rfl (by kernel_rfl) (fun _ _ _ h => h) (Or.inl ⟨by rfl, ?_⟩) hHeld ?_ ?_
  rotate_left
  · rintro w' ⟨s0, s1⟩
    go_simp
    with_reducible rfl
  rotate_left
  · simp only [Act.put, List.setIfInBounds_toArray, List.set_cons_zero, List.set_cons_succ]
    rfl
  refine one_ (i := 7) (N := some 17) #[true, true, true, true, true, true, true, true, false, false, false, false, false, false, false, false, false, false, false, false, false, false, false, false, false, false, false, false] rfl rfl (by kernel_rfl) (by decide) (fun K hK => ?_)
  refine goes_ Try.func23 (by kernel_rfl) rfl #[.int .i64 1, .string (⟨#[98]⟩ : ByteArray)] (by rfl) rfl rfl (by (try simp only [List.map_toArray, List.map_cons, List.map_nil]); first | done | rfl) ?_
  (with_reducible refine (HP.out _).mono ?_)
  rintro e w5 ⟨v5, rfl, ho5, hb5⟩
  obtain ⟨Z1, Z3, ez⟩ := Kd.R_slice ho5
  subst ez
  have HO5 := Aside0.mk ho5
  have HD5 := Aside0.mk (HD.out.trans (hb5.mono HD.out.size))
  clear ho5 hb5 HD
  have HD := HD5
  clear HD5
  refine ⟨_, rfl, ?_⟩
  refine hK.out _ _ (HF.out _ HD.out) (fun hHeld => ?_)
  clear hK K
  refine norm_ (a' := ?_) ?_ ?_
  rotate_left
  · show Act.put _ (some 17) _ = _
    simp only [Act.put, List.setIfInBounds_toArray, List.set_cons_zero, List.set_cons_succ]
    rfl
  refine one_ (i := 8) (N := some 18) #[true, true, true, true, true, true, true, true, true, false, false, false, false, false, false, false, false, false, false, false, false, false, false, false, false, false, false, false] rfl rfl (by kernel_rfl) (by decide) (fun K hK => ?_)
  refine goes_ Try.func24 (by kernel_rfl) rfl #[.slice X1 r1b.length X3, .slice Z1 r1b.length Z3] (by rfl) rfl rfl (by (try simp only [List.map_toArray, List.map_cons, List.map_nil]); first | done | rfl) ?_
  (with_reducible refine (ref05_Same.calls 9 X1 X3 r1b Z1 Z3 r1b true _ (Kd.C_below HX.out HD.out) HXL.out (Kd.R_reads' HO5.out).2.2 (Kd.R_reads' HO5.out).2.1 HSM.out.1).mono ?_)
  rintro e w6 ⟨rfl, hd6⟩
  obtain ⟨m6, rfl⟩ := hd6.out
  have HD6 := Aside0.mk (pw_below_drewN HD.out m6)
  clear HD hd6
  have HD := HD6
  clear HD6 HO5
  refine ⟨_, rfl, ?_⟩
  refine hK.out _ _ (HF.out _ HD.out) (fun hHeld => ?_)
  clear hK K
  refine norm_ (a' := ?_) ?_ ?_
  rotate_left
  · show Act.put _ (some 18) _ = _
    simp only [Act.put, List.setIfInBounds_toArray, List.set_cons_zero, List.set_cons_succ]
    rfl
  refine pure_ (i := 9) (N := some 19) (v := ?_) (a' := ?_) #[true, true, true, true, true, true, true, true, true, true, false, false, false, false, false, false, false, false, false, false, false, false, false, false, false, false, false, false] rfl rfl (by kernel_rfl) (fun _ _ _ h => h) (Or.inl ⟨by rfl, ?_⟩) ?_ ?_
  rotate_left
  · intro w'
    go_simp
    with_reducible rfl
  rotate_left
  · simp only [Act.put, List.setIfInBounds_toArray, List.set_cons_zero, List.set_cons_succ]
    rfl
  refine pure_ (i := 10) (N := some 20) (v := ?_) (a' := ?_) #[true, true, true, true, true, true, true, true, true, true, true, false, false, false, false, false, false, false, false, false, false, false, false, false, false, false, false, false] rfl rfl (by kernel_rfl) (fun _ _ _ h => h) (Or.inl ⟨by rfl, ?_⟩) ?_ ?_
  rotate_left
  · intro w'
    go_simp
    with_reducible rfl
  rotate_left
  · simp only [Act.put, List.setIfInBounds_toArray, List.set_cons_zero, List.set_cons_succ]
    rfl
  refine pure_ (i := 11) (N := some 21) (v := ?_) (a' := ?_) #[true, true, true, true, true, true, true, true, true, true, true, true, false, false, false, false, false, false, false, false, false, false, false, false, false, false, false, false] rfl rfl (by kernel_rfl) (fun _ _ _ h => h) (Or.inl ⟨by rfl, ?_⟩) ?_ ?_
  rotate_left
  · intro w'
    go_simp
    with_reducible rfl
  rotate_left
  · simp only [Act.put, List.setIfInBounds_toArray, List.set_cons_zero, List.set_cons_succ]
    rfl
  refine pure_ (i := 12) (N := some 22) (v := ?_) (a' := ?_) #[true, true, true, true, true, true, true, true, true, true, true, true, true, false, false, false, false, false, false, false, false, false, false, false, false, false, false, false] rfl rfl (by kernel_rfl) (fun _ _ _ h => h) (Or.inl ⟨by rfl, ?_⟩) ?_ ?_
  rotate_left
  · intro w'
    go_simp
    with_reducible rfl
  rotate_left
  · simp only [Act.put, List.setIfInBounds_toArray, List.set_cons_zero, List.set_cons_succ]
    rfl
  refine pure_ (i := 14) (N := some 24) (v := ?_) (a' := ?_) #[true, true, true, true, true, true, true, true, true, true, true, true, true, false, true, false, false, false, false, false, false, false, false, false, false, false, false, false] rfl rfl (by kernel_rfl) (fun _ _ _ h => h) (Or.inl ⟨by rfl, ?_⟩) ?_ ?_
  rotate_left
  · intro w'
    go_simp
    with_reducible rfl
  rotate_left
  · simp only [Act.put, List.setIfInBounds_toArray, List.set_cons_zero, List.set_cons_succ]
    rfl
  refine take_ (i := 13) (N := some 23) (v := ?_) (a' := ?_) #[true, true, true, true, true, true, true, true, true, true, true, true, true, true, true, false, false, false, false, false, false, false, false, false, false, false, false, false] rfl rfl (by kernel_rfl) (fun _ _ _ h => h) (Or.inl ⟨by rfl, ?_⟩) hHeld ?_ ?_
  rotate_left
  · rintro w' ⟨s0, s1⟩
    go_simp
    with_reducible rfl
  rotate_left
  · simp only [Act.put, List.setIfInBounds_toArray, List.set_cons_zero, List.set_cons_succ]
    rfl
  refine one_ (i := 15) (N := some 25) #[true, true, true, true, true, true, true, true, true, true, true, true, true, true, true, true, false, false, false, false, false, false, false, false, false, false, false, false] rfl rfl (by kernel_rfl) (by decide) (fun K hK => ?_)
  refine goes_ Try.func24 (by kernel_rfl) rfl #[.slice Y1 r2a.length Y3, .slice R1 r2a.length R3] (by rfl) rfl rfl (by (try simp only [List.map_toArray, List.map_cons, List.map_nil]); first | done | rfl) ?_
  (with_reducible refine (ref05_Same.calls 9 Y1 Y3 r2a R1 R3 r2a true _ (Kd.C_below HY.out HD.out) HYL.out (Kd.C_below HR.out HD.out) HRL.out HSM.out.2).mono ?_)
  rintro e w7 ⟨rfl, hd7⟩
  obtain ⟨m7, rfl⟩ := hd7.out
  have HD7 := Aside0.mk (pw_below_drewN HD.out m7)
  clear HD hd7
  have HD := HD7
  clear HD7
  refine ⟨_, rfl, ?_⟩
  refine hK.out _ _ (HF.out _ HD.out) (fun hHeld => ?_)
  clear hK K
  refine norm_ (a' := ?_) ?_ ?_
  rotate_left
  · show Act.put _ (some 25) _ = _
    simp only [Act.put, List.setIfInBounds_toArray, List.set_cons_zero, List.set_cons_succ]
    rfl
  refine pure_ (i := 16) (N := some 26) (v := ?_) (a' := ?_) #[true, true, true, true, true, true, true, true, true, true, true, true, true, true, true, true, true, false, false, false, false, false, false, false, false, false, false, false] rfl rfl (by kernel_rfl) (fun _ _ _ h => h) (Or.inl ⟨by rfl, ?_⟩) ?_ ?_
  rotate_left
  · intro w'
    go_simp
    with_reducible rfl
  rotate_left
  · simp only [Act.put, List.setIfInBounds_toArray, List.set_cons_zero, List.set_cons_succ]
    rfl
  refine pure_ (i := 17) (N := some 27) (v := ?_) (a' := ?_) #[true, true, true, true, true, true, true, true, true, true, true, true, true, true, true, true, true, true, false, false, false, false, false, false, false, false, false, false] rfl rfl (by kernel_rfl) (fun _ _ _ h => h) (Or.inl ⟨by rfl, ?_⟩) ?_ ?_
  rotate_left
  · intro w'
    go_simp
    with_reducible rfl
  rotate_left
  · simp only [Act.put, List.setIfInBounds_toArray, List.set_cons_zero, List.set_cons_succ]
    rfl
  refine pure_ (i := 18) (N := some 28) (v := ?_) (a' := ?_) #[true, true, true, true, true, true, true, true, true, true, true, true, true, true, true, true, true, true, true, false, false, false, false, false, false, false, false, false] rfl rfl (by kernel_rfl) (fun _ _ _ h => h) (Or.inl ⟨by rfl, ?_⟩) ?_ ?_
  rotate_left
  · intro w'
    go_simp
    with_reducible rfl
  rotate_left
  · simp only [Act.put, List.setIfInBounds_toArray, List.set_cons_zero, List.set_cons_succ]
    rfl
  refine one_ (i := 19) (N := some 29) #[true, true, true, true, true, true, true, true, true, true, true, true, true, true, true, true, true, true, true, true, false, false, false, false, false, false, false, false] rfl rfl (by kernel_rfl) (by decide) (fun K hK => ?_)
  refine Kd.R_lit_step (Kd.int .i64) _ 3 ?hg (N := 29) ?hd (xs := ([0] : List Int)) (inner := [.int .i64 0]) (ok := fun _ => True) (okp := fun _ => True) ?hr ?hp (fun _ hk => hk) trivial (Below.refl _ _) (Nat.le_refl _) (by simp) ?_; (case hd => rfl); (case hg => rfl); (case hr => first | (go_simp; done) | (go_simp; rfl)); (case hp => exact (Reps.one (show Kd.M (Kd.int .i64) _ _ _ 0 [.int .i64 0] from rfl) (Reps.none _ _)))
  intro v8 w8 ho8 hb8 hg8 hnew8
  obtain ⟨K1, K3, ek⟩ := Kd.R_slice ho8
  subst ek
  have HO8 := Aside0.mk ho8
  have HD8 := Aside0.mk (HD.out.trans (hb8.mono HD.out.size))
  clear ho8 hb8 hg8 hnew8 HD
  have HD := HD8
  clear HD8
  refine hK.out _ _ (HF.out _ HD.out) (fun hHeld => ?_)
  clear hK K
  refine norm_ (a' := ?_) ?_ ?_
  rotate_left
  · show Act.put _ (some 29) _ = _
    simp only [Act.put, List.setIfInBounds_toArray, List.set_cons_zero, List.set_cons_succ]
    rfl
  refine one_ (i := 20) (N := some 30) #[true, true, true, true, true, true, true, true, true, true, true, true, true, true, true, true, true, true, true, true, true, false, false, false, false, false, false, false] rfl rfl (by kernel_rfl) (by decide) (fun K hK => ?_)
  refine goes_ Try.func12 (by kernel_rfl) rfl #[.slice (some ad) l3.length L3, .slice K1 ([0] : List Int).length K3] (by rfl) rfl rfl (by (try simp only [List.map_toArray, List.map_cons, List.map_nil]); first | done | rfl) ?_
  (with_reducible refine (rise_calls (some ad) L3 l3 K1 K3 [0] true _ (Kd.C_below HL.out HD.out) HLL.out (Kd.R_reads' HO8.out).2.2 (Kd.R_reads' HO8.out).2.1 rise3).mono ?_)
  rintro e w9 ⟨rfl, hb9⟩
  have HD9 := Aside0.mk (HD.out.trans (hb9.mono HD.out.size))
  clear HD hb9
  have HD := HD9
  clear HD9 HO8
  refine ⟨_, rfl, ?_⟩
  refine hK.out _ _ (HF.out _ HD.out) (fun hHeld => ?_)
  clear hK K
  refine norm_ (a' := ?_) ?_ ?_
  rotate_left
  · show Act.put _ (some 30) _ = _
    simp only [Act.put, List.setIfInBounds_toArray, List.set_cons_zero, List.set_cons_succ]
    rfl
  refine pure_ (i := 21) (N := some 31) (v := ?_) (a' := ?_) #[true, true, true, true, true, true, true, true, true, true, true, true, true, true, true, true, true, true, true, true, true, true, false, false, false, false, false, false] rfl rfl (by kernel_rfl) (fun _ _ _ h => h) (Or.inl ⟨by rfl, ?_⟩) ?_ ?_
  rotate_left
  · intro w'
    go_simp
    with_reducible rfl
  rotate_left
  · simp only [Act.put, List.setIfInBounds_toArray, List.set_cons_zero, List.set_cons_succ]
    rfl
  refine pure_ (i := 22) (N := some 32) (v := ?_) (a' := ?_) #[true, true, true, true, true, true, true, true, true, true, true, true, true, true, true, true, true, true, true, true, true, true, true, false, false, false, false, false] rfl rfl (by kernel_rfl) (fun _ _ _ h => h) (Or.inl ⟨by rfl, ?_⟩) ?_ ?_
  rotate_left
  · intro w'
    go_simp
    with_reducible rfl
  rotate_left
  · simp only [Act.put, List.setIfInBounds_toArray, List.set_cons_zero, List.set_cons_succ]
    rfl
  refine pure_ (i := 23) (N := some 33) (v := ?_) (a' := ?_) #[true, true, true, true, true, true, true, true, true, true, true, true, true, true, true, true, true, true, true, true, true, true, true, true, false, false, false, false] rfl rfl (by kernel_rfl) (fun _ _ _ h => h) (Or.inl ⟨by rfl, ?_⟩) ?_ ?_
  rotate_left
  · intro w'
    go_simp
    with_reducible rfl
  rotate_left
  · simp only [Act.put, List.setIfInBounds_toArray, List.set_cons_zero, List.set_cons_succ]
    rfl
  refine pure_ (i := 24) (N := some 34) (v := ?_) (a' := ?_) #[true, true, true, true, true, true, true, true, true, true, true, true, true, true, true, true, true, true, true, true, true, true, true, true, true, false, false, false] rfl rfl (by kernel_rfl) (fun _ _ _ h => h) (Or.inl ⟨by rfl, ?_⟩) ?_ ?_
  rotate_left
  · intro w'
    go_simp
    with_reducible rfl
  rotate_left
  · simp only [Act.put, List.setIfInBounds_toArray, List.set_cons_zero, List.set_cons_succ]
    rfl
  refine one_ (i := 25) (N := some 35) #[true, true, true, true, true, true, true, true, true, true, true, true, true, true, true, true, true, true, true, true, true, true, true, true, true, true, false, false] rfl rfl (by kernel_rfl) (by decide) (fun K hK => ?_)
  refine goes_ Try.func13 (by kernel_rfl) rfl #[.slice (some ad) l3.length L3, .slice (some ad) l3.length L3] (by rfl) rfl rfl (by (try simp only [List.map_toArray, List.map_cons, List.map_nil]); first | done | rfl) ?_
  (with_reducible refine (bag_calls (some ad) L3 l3 (some ad) L3 l3 true _ (Kd.C_below HL.out HD.out) HLL.out (Kd.C_below HL.out HD.out) HLL.out bag3).mono ?_)
  rintro e w10 ⟨rfl, hb10⟩
  have HD10 := Aside0.mk (HD.out.trans (hb10.mono HD.out.size))
  clear HD hb10
  have HD := HD10
  clear HD10
  refine ⟨_, rfl, ?_⟩
  refine hK.out _ _ (HF.out _ HD.out) (fun hHeld => ?_)
  clear hK K
  refine norm_ (a' := ?_) ?_ ?_
  rotate_left
  · show Act.put _ (some 35) _ = _
    simp only [Act.put, List.setIfInBounds_toArray, List.set_cons_zero, List.set_cons_succ]
    rfl
  refine pure_ (i := 26) (N := some 36) (v := ?_) (a' := ?_) #[true, true, true, true, true, true, true, true, true, true, true, true, true, true, true, true, true, true, true, true, true, true, true, true, true, true, true, false] rfl rfl (by kernel_rfl) (fun _ _ _ h => h) (Or.inl ⟨by rfl, ?_⟩) ?_ ?_
  rotate_left
  · intro w'
    go_simp
    with_reducible rfl
  rotate_left
  · simp only [Act.put, List.setIfInBounds_toArray, List.set_cons_zero, List.set_cons_succ]
    rfl
  refine pure_ (i := 27) (N := some 0) (v := ?_) (a' := ?_) #[true, true, true, true, true, true, true, true, true, true, true, true, true, true, true, true, true, true, true, true, true, true, true, true, true, true, true, true] rfl rfl (by kernel_rfl) (fun _ _ _ h => h) (Or.inl ⟨by rfl, ?_⟩) ?_ ?_
  rotate_left
  · intro w'
    go_simp
    with_reducible rfl
  rotate_left
  · simp only [Act.put, List.setIfInBounds_toArray, List.set_cons_zero, List.set_cons_succ]
    rfl
  refine done_ (by kernel_rfl) ?_
  have HE := Aside0.mk (HB4.out.trans (HD.out.mono HB4.out.size))
  try go_wp2
  go_ret
  exact ⟨rfl, HE.out⟩
end Go.Proofs.Ythpoeljnmdjjiaa.PSrn
