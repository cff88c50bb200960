/-
  By hand: agg.Group.
-/
import Derived.Test.YtedgfhijkkedaaaGrF

namespace Go.Proofs.Ytedgfhijkkedaaa.PAgg
open Go.RowKit Go.Proofs.YtedgfhijkkedaaaW.PrintWords Go.Proofs.YtedgfhijkkedaaaW.PrintLast Go.Proofs.YtedgfhijkkedaaaW.PrintMore
attribute [local go_sem] max2_int min2_int max_two min_two max_three min_three max_four min_four
set_option linter.unusedVariables false
set_option linter.unusedSimpArgs false

/-- A group's row: values behind those it has, or an error's number. -/
def aggRow (k : Nat) (g : List (List S39)) : List S36 → List S39 → Option (List S39 × Int)
  | [], acc => some (acc, 0)
  | a :: t, acc => (oneF k g a.f0 a.f1).bind fun v => if v.2 = 0 then aggRow k g t (acc ++ [v.1]) else some ([], v.2)
/-- What a group's row begins with. -/
def headOf (n : Int) (g : List (List S39)) : List S39 := if 0 < n then (rd_L3 g 0).take n.toNat else []
def aggAll (k : Nat) (n : Int) (l : List S36) : List (List (List S39)) → List (List S39) → Option (List (List S39) × Int)
  | [], acc => some (acc, 0)
  | g :: t, acc => (aggRow k g l (headOf n g)).bind fun r => if r.2 = 0 then aggAll k n l t (acc ++ [r.1]) else some ([], r.2)
def groupsF (n : Int) (l0 : List (List S39)) : List (List (List S39)) := if n = 0 then [l0] else groupsOf n.toNat l0
def groupF (k : Nat) (l0 : List (List S39)) (n : Int) (l2 : List S36) : Option (List (List S39) × Int) :=
  if n < 0 ∨ l0.any (fun r => decide ((r.length : Int) < n)) = true then some ([], 1)
  else if l0.length ≤ 1000000 ∧ n ≤ 1000000 ∧ l2.length ≤ 1000000 then aggAll k n l2 (groupsF n l0) [] else none
theorem aggRow_mono (k : Nat) (g : List (List S39)) : ∀ (l : List S36) (acc : List S39), LeO (aggRow k g l acc) (aggRow (k + 1) g l acc)
  | [], acc => LeO.refl _
  | a :: t, acc => by
    unfold aggRow
    exact LeO.bind (oneF_mono g a.f0 a.f1 k) (fun v => LeO.ite (aggRow_mono k g t _) (LeO.refl _))
theorem aggAll_mono (k : Nat) (n : Int) (l : List S36) : ∀ (gs : List (List (List S39))) (acc : List (List S39)), LeO (aggAll k n l gs acc) (aggAll (k + 1) n l gs acc)
  | [], acc => LeO.refl _
  | g :: t, acc => by
    unfold aggAll
    exact LeO.bind (aggRow_mono k g l _) (fun v => LeO.ite (aggAll_mono k n l t _) (LeO.refl _))
theorem groupF_mono (l0 : List (List S39)) (n : Int) (l2 : List S36) (k : Nat) : LeO (groupF k l0 n l2) (groupF (k + 1) l0 n l2) := by
  unfold groupF
  exact LeO.ite (LeO.refl _) (LeO.ite (aggAll_mono k n l2 _ _) (LeO.refl _))
/-- Groups as they are made: few; and with values to tell by, none is empty and its rows are long enough. -/
def goodG (n : Int) (gs : List (List (List S39))) : Prop := gs.length ≤ 1000001 ∧ (0 < n → ∀ g ∈ gs, 0 < g.length ∧ n ≤ ((rd_L3 g 0).length : Int))
theorem goodG_of (n : Int) (l0 : List (List S39)) (hall : ∀ r ∈ l0, n ≤ (r.length : Int)) (hl : l0.length ≤ 1000000) : goodG n (groupsF n l0) := by
  unfold groupsF
  by_cases h : n = 0
  · rw [if_pos h]
    exact ⟨by simp, fun h2 => by omega⟩
  · rw [if_neg h]
    have := good_of n l0 hall l0.length (Nat.le_refl _)
    rw [List.take_of_length_le (Nat.le_refl _)] at this
    exact ⟨by have := this.1; omega, fun _ g hg => ⟨(this.2 g hg).1, (this.2 g hg).2.1⟩⟩
theorem headOf_len (n : Int) (g : List (List S39)) (hn : n ≤ 1000000) : (headOf n g).length ≤ 1000000 := by
  unfold headOf
  split
  · rw [List.length_take]; omega
  · simp
theorem rd36 (x : List S36) (i : Nat) (h : i < x.length) : rd_T36 x (i : Int) = x[i] := by
  unfold rd_T36; rw [List.getD_eq_getElem?_getD, Int.toNat_natCast, List.getElem?_eq_getElem h]; rfl
theorem add_zero_ (ad : Addr) : ad.add 0 = ad := by
  obtain ⟨b, o, s⟩ := ad
  unfold Addr.add
  cases s <;> simp

set_option maxHeartbeats 16000000 in
set_option maxRecDepth 100000 in
theorem group_calls (k : Nat) (A0 : Option Addr) (c0 : Nat) (l0 : List (List S39)) (n : Int) (A2 : Option Addr) (c2 : Nat) (l2 : List S36) (r1 : List (List S39)) (r2 : Int) (w : World)
    (hr0 : Kd.C (Kd.slice 39 k39) w A0 l0.length l0) (hc0 : l0.length ≤ c0) (hr2 : Kd.C k36 w A2 l2.length l2) (hc2 : l2.length ≤ c2) (h : groupF k l0 n l2 = some (r1, r2)) :
    Calls Try.prog 12 #[.slice A0 l0.length c0, .int .i64 n, .slice A2 l2.length c2] w fun e w' => ∃ v, e = .returned (.tuple #[v, .int .i64 r2]) ∧ Kd.S (Kd.slice 39 k39) 32 w' w.heap.size (fun _ => True) v r1 ∧ Below w.heap.size w w' := by
  have HR0 := Aside0.mk hr0
  have Hc0 := Aside0.mk hc0
  have HR2 := Aside0.mk hr2
  have hm2 := hr2.2.1
  have HB0 := Aside0.mk (below_alloc (Below.refl w.heap.size w) (.cells #[.int .i64 n] 3))
  have HBX : Aside0 ((w.alloc (.cells #[.int .i64 n] 3)).heap[w.heap.size]? = some (.cells #[.int .i64 n] 3 (0, 0))) := ⟨blk_new w _⟩
  unfold groupF at h
  clear hr0 hc0 hr2
  go_enter Try.func12, Try.ntmps12
  go_upto_region 1 with (fail)
  generalize w.alloc (.cells #[.int .i64 n] 3) = W0 at *
  have hx0 : W0.cell? ⟨w.heap.size, 0, none⟩ = some (.int .i64 n) := (blk_cell HBX.out 0).trans rfl
  by_cases hn : n < 0
  · rw [if_pos (.inl hn)] at h
    have H := Option.some.inj h
    simp only [Prod.mk.injEq] at H
    obtain ⟨rfl, rfl⟩ := H
    have q1 : decide (n < 0) = true := decide_eq_true hn
    clear h
    go_wp2
    refine bodyPost_ret (results_tmp2 rfl _ _ _) rfl ?_
    exact ⟨_, rfl, Kd.S_nil _ _ _ _ _, HB0.out⟩
  · have q1 : decide (n < 0) = false := decide_eq_false hn
    by_cases hany : l0.any (fun r => decide ((r.length : Int) < n)) = true
    · rw [if_pos (.inr hany)] at h
      have H := Option.some.inj h
      simp only [Prod.mk.injEq] at H
      obtain ⟨rfl, rfl⟩ := H
      have HC := Aside0.mk (contains_calls A0 c0 l0 n w.heap.size W0 (Kd.C_below HR0.out HB0.out) hx0)
      rw [hany] at HC
      clear h hany
      go_wp2_with (go_at_call 19; refine HC.out.mono ?_; rintro e w' ⟨rfl, rfl⟩)
      refine bodyPost_ret (results_tmp2 rfl _ _ _) rfl ?_
      exact ⟨_, rfl, Kd.S_nil _ _ _ _ _, HB0.out⟩
    · rw [if_neg (by rintro (h1 | h1) <;> contradiction)] at h
      by_cases hg : l0.length ≤ 1000000 ∧ n ≤ 1000000 ∧ l2.length ≤ 1000000
      · rw [if_pos hg] at h
        have hall : ∀ r ∈ l0, n ≤ (r.length : Int) := fun r hr => by
          have h1 : decide ((r.length : Int) < n) ≠ true := fun h1 => hany (List.any_eq_true.2 ⟨r, hr, h1⟩)
          rw [ne_eq, decide_eq_true_eq] at h1
          omega
        have hany0 : l0.any (fun r => decide ((r.length : Int) < n)) = false := Bool.eq_false_iff.2 hany
        have HC := Aside0.mk (contains_calls A0 c0 l0 n w.heap.size W0 (Kd.C_below HR0.out HB0.out) hx0)
        rw [hany0] at HC
        have HGC := Aside0.mk (groups_calls A0 c0 l0 n (by omega) hall hg.1 W0 (Kd.C_below HR0.out HB0.out) Hc0.out)
        have HGOOD := Aside0.mk (goodG_of n l0 hall hg.1)
        obtain ⟨gs, hgs⟩ : ∃ gs, gs = groupsF n l0 := ⟨_, rfl⟩
        have hgs2 := hgs
        unfold groupsF at hgs2
        rw [← hgs2] at HGC
        rw [← hgs] at HGOOD h
        have Hg := Aside0.mk hg
        have HH := Aside0.mk h
        have Hn := Aside0.mk hn
        clear h hany hany0 hall hgs hgs2 hg hn
        go_upto_region 5 with (first
          | (go_at_call 19; refine HC.out.mono ?_; rintro e w' ⟨rfl, rfl⟩)
          | (go_at_call 21; refine HGC.out.mono ?_; rintro e w2 ⟨v2, rfl, ho2, hb2⟩; obtain ⟨Ag, cg, eg⟩ := Kd.N_slice ho2; subst eg; have HO2 := Aside0.mk ho2; have HB2 := Aside0.mk hb2; clear ho2 hb2))
        have HBW2 := Aside0.mk (HB0.out.trans (HB2.out.mono HB0.out.size))
        have HGS : Aside0 (Kd.C (Kd.slice 32 (Kd.slice 39 k39)) w2 Ag gs.length gs) := ⟨(Kd.N_reads' HO2.out).2.2⟩
        have HBX2 := Aside0.mk (blk_below HBX.out HB2.out)
        have HR2W := Aside0.mk (Kd.C_below HR2.out HBW2.out)
        have HGL := Aside0.mk HGOOD.out.1
        have HB := Aside0.mk (Below.refl w2.heap.size w2)
        have HS0 : Aside0 (Kd.S (Kd.slice 39 k39) 32 w2 w2.heap.size (fun _ => True) (.slice none 0 0) []) := ⟨Kd.S_nil _ _ _ _ _⟩
        have HSZ : Aside0 (w.heap.size ≤ w2.heap.size) := ⟨HBW2.out.size⟩
        clear hx0 q1
        go_loopw [8, 27] (fun v8 v27 wr => ∃ (i : Nat) (acc : List (List S39)), v27 = .int .i64 i ∧ i ≤ gs.length ∧ acc.length = i ∧ Aside0 (aggAll k n l2 (gs.drop i) acc = some (r1, r2)) ∧ Aside0 (Kd.S (Kd.slice 39 k39) 32 wr w2.heap.size (fun _ => True) v8 acc) ∧ Aside0 (Below w2.heap.size w2 wr)) (fun _ v27 _ => gs.length - (intOf v27).toNat)
        case atStart => exact ⟨0, [], rfl, Nat.zero_le _, rfl, HH, HS0, HB⟩
        case round =>
          clear HH HS0 HB HC HGC
          obtain ⟨i, acc, rfl, hi, hal, HH, HS, HB⟩ := hrel
          have hgl := HGL.out
          obtain ⟨Ao, co, eo⟩ := Kd.S_slice HS.out
          subst eo
          by_cases hlt : i < gs.length
          · have q2 : decide ((i : Int) < (gs.length : Int)) = true := decide_eq_true (by omega)
            have q3 : decide (i < gs.length) = true := decide_eq_true hlt
            have p1 : (0 ≤ (i : Int)) = True := eq_true (by omega)
            have p2 : ((i : Int) < (gs.length : Int)) = True := eq_true (by omega)
            have hh := HH.out
            rw [List.drop_eq_getElem_cons hlt] at hh
            have hgood := fun h => HGOOD.out.2 h gs[i] (List.getElem_mem hlt)
            have hrd := rdL6 gs i hlt
            obtain ⟨ad, A1, c1, e0, hx, hc1, hC1⟩ := at_L6 HGS.out (i : Int) (by omega) (by omega)
            rw [Int.toNat_natCast] at hx
            replace hx := (HB.out.cell (World.block_lt_of_cell? w2 _ hx)).trans hx
            rw [hrd] at hx hc1 hC1
            generalize gs[i] = g at *
            subst e0
            unfold aggAll at hh
            replace hh := Option.bind_eq_some_iff.mp hh
            obtain ⟨⟨ro, er⟩, hrow, hh⟩ := hh
            have HROW := Aside0.mk hrow
            have HREST := Aside0.mk hh
            have HCg := Aside0.mk (Kd.C_below hC1 HB.out)
            have Hc1 := Aside0.mk hc1
            have HG1 : Aside0 (0 < n → 0 < g.length ∧ n ≤ ((rd_L3 g 0).length : Int)) := ⟨hgood⟩
            have Hlt := Aside0.mk hlt
            have Hal := Aside0.mk hal
            have hbx := (blk_cell (blk_below HBX2.out HB.out) 0).trans (rfl : _ = some (Value.int .i64 n))
            clear hh hrow hgood hrd hC1 hc1 HH hlt hal
            by_cases hp : 0 < n
            · have p3 : decide (0 < n) = true := decide_eq_true hp
              obtain ⟨hg0, hng⟩ := HG1.out hp
              obtain ⟨ad3, A3, c3, e3, hx3, hc3, hC3⟩ := at_L3 HCg.out 0 (by omega) (by omega)
              have hx3 : wr.cell? ad3 = some (.slice A3 (rd_L3 g 0).length c3) := by
                rw [show (0 : Int).toNat = 0 from rfl, add_zero_] at hx3; exact hx3
              subst e3
              obtain ⟨i0, hinf, hz0, hz1, hz2⟩ := info_parts info39
              have hcut := cut_to (P := Try.prog) 32 39 .i64 Try.underlying32 hinf A3 (rd_L3 g 0).length c3 n (by omega) hng hc3
              have hl1 : ((rd_L3 g 0).take n.toNat).length = n.toNat := by rw [List.length_take]; omega
              have hT := Kd.C_take (m := n.toNat) hC3 (by omega)
              rw [← hl1] at hcut
              have hhead : headOf n g = (rd_L3 g 0).take n.toNat := by unfold headOf; rw [if_pos hp]
              have hhl := headOf_len n g Hg.out.2.1
              rw [← hhead] at hcut hl1 hT
              have HX : Aside0 (∀ w', Below wr.heap.size wr w' → w'.cell? ad3 = some (.slice A3 (rd_L3 g 0).length c3) ∧ w'.cell? ⟨w.heap.size, 0, none⟩ = some (.int .i64 n)) := ⟨fun w' hb => ⟨(hb.cell (World.block_lt_of_cell? wr _ hx3)).trans hx3, (hb.cell (World.block_lt_of_cell? wr _ hbx)).trans hbx⟩⟩
              have p4 : (0 < g.length) = True := eq_true hg0
              have p5 : (0 < (g.length : Int)) = True := eq_true (by omega)
              have p6 : decide ((0 : Int) < (g.length : Int)) = true := decide_eq_true (by omega)
              have HHL := Aside0.mk hhl
              generalize hy : headOf n g = y at *
              have HY : Aside0 (Kd.C k39 wr A3 y.length y) := ⟨hT⟩
              have HYL : Aside0 (y.length < 4398046511104) := ⟨by omega⟩
              have HD := Aside0.mk (below_drew (Below.refl wr.heap.size wr))
              clear hhl hhead hT hl1 hinf hz0 hz1 hz2 hC3 hc3 hng hg0 hy hx3 hp
              generalize (rd_L3 g 0).length = m3 at *
              go_upto_region 9 with (fail)
              refine start_ (n := 7) (S := fun w' => (w'.cell? ad3 = some (.slice A3 m3 c3) ∧ w'.cell? ⟨w.heap.size, 0, none⟩ = some (.int .i64 n))) (ds := []) #[false, false, false, false, false, false, false] (by kernel_rfl) rfl rfl (HX.out wr.drew HD.out) (fun hHeld => ?_)
              refine pure_ (i := 0) (N := some 33) (v := ?_) (a' := ?_) #[true, false, false, false, false, false, false] rfl rfl (by kernel_rfl) (fun _ _ _ h => h) (Or.inl ⟨by rfl, ?_⟩) ?_ ?_
              rotate_left
              · intro w'
                go_simp
                with_reducible rfl
              rotate_left
              · simp only [Act.put, List.setIfInBounds_toArray, List.set_cons_zero, List.set_cons_succ]
                rfl
              refine pure_ (i := 1) (N := some 34) (v := ?_) (a' := ?_) #[true, true, false, false, false, false, false] rfl rfl (by kernel_rfl) (fun _ _ _ h => h) (Or.inl ⟨by rfl, ?_⟩) ?_ ?_
              rotate_left
              · intro w'
                go_simp
                with_reducible rfl
              rotate_left
              · simp only [Act.put, List.setIfInBounds_toArray, List.set_cons_zero, List.set_cons_succ]
                rfl
              refine take_ (i := 2) (N := some 35) (v := ?_) (a' := ?_) #[true, true, true, false, false, false, false] rfl rfl (by kernel_rfl) (fun _ _ _ h => h) (Or.inl ⟨by rfl, ?_⟩) hHeld ?_ ?_
              rotate_left
              · rintro w' ⟨s0, s1⟩
                go_simp
                with_reducible rfl
              rotate_left
              · simp only [Act.put, List.setIfInBounds_toArray, List.set_cons_zero, List.set_cons_succ]
                rfl
              refine take_ (i := 3) (N := some 36) (v := ?_) (a' := ?_) #[true, true, true, true, false, false, false] rfl rfl (by kernel_rfl) (fun _ _ _ h => h) (Or.inl ⟨by rfl, ?_⟩) hHeld ?_ ?_
              rotate_left
              · rintro w' ⟨s0, s1⟩
                go_simp
                with_reducible rfl
              rotate_left
              · simp only [Act.put, List.setIfInBounds_toArray, List.set_cons_zero, List.set_cons_succ]
                rfl
              refine pure_ (i := 4) (N := some 37) (v := ?_) (a' := ?_) #[true, true, true, true, true, false, false] rfl rfl (by kernel_rfl) (fun _ _ _ h => h) (Or.inl ⟨by rfl, ?_⟩) ?_ ?_
              rotate_left
              · intro w'
                go_simp
                with_reducible rfl
              rotate_left
              · simp only [Act.put, List.setIfInBounds_toArray, List.set_cons_zero, List.set_cons_succ]
                rfl
              refine one_ (i := 5) (N := some 38) #[true, true, true, true, true, true, false] rfl rfl (by kernel_rfl) (by decide) (fun K hK => ?_)
              refine goes_ Try.func22 (by kernel_rfl) rfl #[.slice A3 y.length c3] (by rfl) rfl rfl (by (try simp only [List.map_toArray, List.map_cons, List.map_nil]); first | done | rfl) ?_
              (with_reducible refine (clone_calls A3 c3 y _ (Kd.C_below HY.out HD.out) HYL.out).mono ?_)
              rintro e w4 ⟨v4, rfl, ho4, hb4⟩
              have HO4 := Aside0.mk ho4
              have HB4 := Aside0.mk hb4
              clear ho4 hb4
              refine ⟨_, rfl, ?_⟩
              refine hK.out _ _ (HX.out w4 (HD.out.trans (HB4.out.mono (Nat.le_refl _)))) (fun hHeld => ?_)
              clear hK K
              refine norm_ (a' := ?_) ?_ ?_
              rotate_left
              · show Act.put _ (some 38) _ = _
                simp only [Act.put, List.setIfInBounds_toArray, List.set_cons_zero, List.set_cons_succ]
                rfl
              refine pure_ (i := 6) (N := some 11) (v := ?_) (a' := ?_) #[true, true, true, true, true, true, true] rfl rfl (by kernel_rfl) (fun _ _ _ h => h) (Or.inl ⟨by rfl, ?_⟩) ?_ ?_
              rotate_left
              · intro w'
                go_simp
                with_reducible rfl
              rotate_left
              · simp only [Act.put, List.setIfInBounds_toArray, List.set_cons_zero, List.set_cons_succ]
                rfl
              refine done_ (by kernel_rfl) ?_
              have HOI : Aside0 (Kd.R k39 39 w4 wr.heap.size (fun _ => True) v4 y) := HO4
              have HBI : Aside0 (Below wr.heap.size wr w4) := ⟨HD.out.trans (HB4.out.mono (Nat.le_refl _))⟩
              clear HO4 HB4 HX hbx HY HYL HD hcut hHeld p3 p4 p5 p6
              obtain ⟨wq, hwq⟩ : ∃ wq : World, wq = wr := ⟨wr, rfl⟩
              subst hwq
              have HR2I : Aside0 (Kd.C k36 wq A2 l2.length l2) := ⟨Kd.C_below HR2W.out HB.out⟩
              have HL2 := Aside0.mk Hg.out.2.2
              go_upto_region 11 with (fail)
              go_loopw [11, 41] (fun v11 v41 wr => ∃ (j : Nat) (row : List S39), v41 = .int .i64 j ∧ j ≤ l2.length ∧ row.length = y.length + j ∧ Aside0 (aggRow k g (l2.drop j) row = some (ro, er)) ∧ Aside0 (Kd.R k39 39 wr wq.heap.size (fun _ => True) v11 row) ∧ Aside0 (Below wq.heap.size wq wr)) (fun _ v41 _ => l2.length - (intOf v41).toNat)
              case atStart => exact ⟨0, y, rfl, Nat.zero_le _, rfl, HROW, HOI, HBI⟩
              case round =>
                clear HROW HOI HBI
                obtain ⟨j, row, rfl, hj, hrl, HROW, HOI, HBI⟩ := hrel
                have hl2 := HL2.out
                obtain ⟨Av, cv, ev⟩ := Kd.R_slice HOI.out
                subst ev
                by_cases hjt : j < l2.length
                · have q4 : decide ((j : Int) < (l2.length : Int)) = true := decide_eq_true (by omega)
                  have q5 : decide (j < l2.length) = true := decide_eq_true hjt
                  have s1 : (0 ≤ (j : Int)) = True := eq_true (by omega)
                  have s2 : ((j : Int) < (l2.length : Int)) = True := eq_true (by omega)
                  have hh := HROW.out
                  rw [List.drop_eq_getElem_cons hjt] at hh
                  have hrd := rd36 l2 j hjt
                  obtain ⟨ad2, e2, hy0, hy1⟩ := at_T36 HR2I.out (j : Int) (by omega) (by omega)
                  rw [Int.toNat_natCast] at hy0 hy1
                  replace hy0 := (HBI.out.cell (World.block_lt_of_cell? wq _ hy0)).trans hy0
                  replace hy1 := (HBI.out.cell (World.block_lt_of_cell? wq _ hy1)).trans hy1
                  rw [hrd] at hy0 hy1
                  generalize l2[j] = ag at *
                  subst e2
                  unfold aggRow at hh
                  replace hh := Option.bind_eq_some_iff.mp hh
                  obtain ⟨⟨x1, e1⟩, hone, hh⟩ := hh
                  have HONE : Aside0 (∀ W', Below wr.heap.size wr W' → Calls Try.prog 23 #[.slice (some ad3) g.length c1, .agg #[.int .i64 ag.f0, .int .i64 ag.f1]] W' fun en w' => en = .returned (.tuple #[.agg #[.int .i64 x1.f0, .int .i64 x1.f1, .string x1.f2], .int .i64 e1]) ∧ Below W'.heap.size W' w') :=
                    ⟨fun W' hb => one_calls k _ c1 g ag.f0 ag.f1 x1 e1 W' (Kd.C_below HCg.out (HBI.out.trans (hb.mono HBI.out.size))) Hc1.out hone⟩
                  have HHH := Aside0.mk hh
                  have Hjt := Aside0.mk hjt
                  have Hrl := Aside0.mk hrl
                  clear hh hone hrd hjt HROW hrl
                  by_cases he : e1 = 0
                  · subst he
                    have HH2 : Aside0 (aggRow k g (l2.drop (j + 1)) (row ++ [x1]) = some (ro, er)) := ⟨by have := HHH.out; simpa using this⟩
                    clear HHH
                    go_upto_region 14 with (first
                      | (go_at_call 23; refine (HONE.out _ (below_alloc (Below.refl _ _) _)).mono ?_; rintro e w5 ⟨rfl, hb5⟩; have HB5 := Aside0.mk ((below_alloc (Below.refl wr.heap.size wr) (.cells #[.int .i64 ag.f0, .int .i64 ag.f1] 36)).trans (hb5.mono (by simp))); clear hb5))
                    have HB6 := Aside0.mk (below_alloc HB5.out (.cells #[.int .i64 x1.f0, .int .i64 x1.f1, .string x1.f2] 39))
                    have HOI6 := Aside0.mk (Kd.R_below HOI.out HB6.out)
                    have HBW6 := Aside0.mk (HBI.out.trans (HB6.out.mono HBI.out.size))
                    obtain ⟨m0, m1, m2⟩ := blk3 (blk_new w5 (.cells #[.int .i64 x1.f0, .int .i64 x1.f1, .string x1.f2] 39))
                    generalize w5.alloc (.cells #[.int .i64 x1.f0, .int .i64 x1.f1, .string x1.f2] 39) = w6 at *
                    have HAL : Aside0 ((row.length + 1) * 32 ≤ 140737488355328) := ⟨by have := Hrl.out; have := HHL.out; have := HL2.out; have := Hjt.out; omega⟩
                    go_wp2_with (((with_reducible refine gate_builtin (b := .append) (xs := #[.tmp 54, .tmp 56]) rfl ?_); at_builtin; refine Kd.R_append k39 (w0 := wq) wq.heap.size rfl (.tmp 54) (.tmp 56) 32 39 (.agg #[(.int .i64 0), (.int .i64 0), (.string ⟨#[]⟩)]) 32 rfl Try.underlying32 info39 rfl (by decide) (by omega) (.slice Av row.length cv) row x1 [.int .i64 x1.f0, .int .i64 x1.f1, .string x1.f2] (fun _ => True) (fun _ => False) rfl rfl (k39_mkM _ _ _ x1) (fun _ hk => hk.elim) (fun _ _ => trivial) HOI6.out HBW6.out (below_size HBW6.out) HAL.out ?_; intro v57 w7 ho7 hb7 hg7 hat7; have HO7 := Aside0.mk ho7; have HB7 := Aside0.mk hb7; clear ho7 hb7 hg7 hat7))
                    go_roundw
                    case rel => exact ⟨j + 1, row ++ [x1], by go_num, by have := Hjt.out; omega, by have := Hrl.out; simp; omega, HH2, HO7, HB7⟩
                    case measure => have := Hjt.out; simp [intOf]; omega
                  · have b1 : (e1 == 0) = false := by rw [beq_eq_false_iff_ne]; exact he
                    have hh := HHH.out
                    simp only [he, if_false] at hh
                    have H := Option.some.inj hh
                    simp only [Prod.mk.injEq] at H
                    obtain ⟨rfl, rfl⟩ := H
                    have hh2 := HREST.out
                    simp only [he, if_false] at hh2
                    have H := Option.some.inj hh2
                    simp only [Prod.mk.injEq] at H
                    obtain ⟨rfl, rfl⟩ := H
                    clear hh hh2 HHH HREST he
                    go_wp2_with (first
                      | (go_at_call 23; refine (HONE.out _ (below_alloc (Below.refl _ _) _)).mono ?_; rintro e w5 ⟨rfl, hb5⟩; have HB5 := Aside0.mk ((below_alloc (Below.refl wr.heap.size wr) (.cells #[.int .i64 ag.f0, .int .i64 ag.f1] 36)).trans (hb5.mono (by simp))); clear hb5))
                    refine bodyPost_ret (results_tmp2 rfl _ _ _) rfl ?_
                    refine ⟨_, rfl, Kd.S_nil _ _ _ _ _, ?_⟩
                    have h1 := HBI.out.trans (HB5.out.mono HBI.out.size)
                    have h2 := HBW2.out.trans ((HB.out.trans (h1.mono HB.out.size)).mono HSZ.out)
                    repeat (first | exact h2 | apply below_alloc | refine below_set ?_ (by have := h2.size; simp; omega))
                · have q4 : decide ((j : Int) < (l2.length : Int)) = false := decide_eq_false (by omega)
                  have q5 : decide (j < l2.length) = false := decide_eq_false hjt
                  have hh := HROW.out
                  rw [List.drop_eq_nil_of_le (by omega)] at hh
                  unfold aggRow at hh
                  have H := Option.some.inj hh
                  simp only [Prod.mk.injEq] at H
                  obtain ⟨rfl, rfl⟩ := H
                  have HH2 : Aside0 (aggAll k n l2 (gs.drop (i + 1)) (acc ++ [row]) = some (r1, r2)) := ⟨by have := HREST.out; simpa using this⟩
                  have HSW : Aside0 (Kd.S (Kd.slice 39 k39) 32 wr w2.heap.size (fun k => True ∧ k < wq.heap.size) (.slice Ao acc.length co) acc) := ⟨Kd.S_old HS.out HBI.out⟩
                  have HRW : Aside0 (Kd.R k39 39 wr w2.heap.size (fun k => wq.heap.size ≤ k) (.slice Av row.length cv) row) := ⟨Kd.R_lower (Kd.R_mono (Kd.R_bound HOI.out) (fun _ hk => hk.2.1)) HB.out.size⟩
                  have HBW : Aside0 (Below w2.heap.size w2 wr) := ⟨HB.out.trans (HBI.out.mono HB.out.size)⟩
                  have HLT : Aside0 (∀ k, (Value.slice Ao acc.length co).ownBlock = some k → k < wq.heap.size) := ⟨Kd.S_lt HS.out⟩
                  clear hh hjt HROW HREST hrl
                  go_wp2_with (((with_reducible refine gate_builtin (b := .append) (xs := #[.tmp 59, .tmp 61]) rfl ?_); at_builtin; refine Kd.S_append (Kd.slice 39 k39) (w0 := w2) w2.heap.size rfl (.tmp 59) (.tmp 61) 30 32 (.slice none 0 0) 24 rfl Try.underlying30 info32 rfl (by decide) (by omega) (.slice Ao acc.length co) acc row [.slice Av row.length cv] (fun _ => True) (fun k => wq.heap.size ≤ k) rfl rfl (Kd.M_row HRW.out) (fun k hk => ⟨trivial, fun e => by have := HLT.out k e.symm; omega⟩) (fun _ _ => trivial) (Kd.S_mono HSW.out (fun k hk => ⟨trivial, by omega⟩)) HBW.out (below_size HBW.out) (by have := Hal.out; have := Hlt.out; have := HGL.out; omega) ?_; intro v62 w8 ho8 hb8 hg8 hat8; have HO8 := Aside0.mk ho8; have HB8 := Aside0.mk hb8; clear ho8 hb8 hg8 hat8))
                  go_roundw
                  case rel => exact ⟨i + 1, acc ++ [row], by go_num, by have := Hlt.out; omega, by have := Hal.out; simp; omega, HH2, HO8, HB8⟩
                  case measure => have := Hlt.out; simp [intOf]; omega
            · have p3 : decide (0 < n) = false := decide_eq_false hp
              have hhead : headOf n g = [] := by unfold headOf; rw [if_neg hp]
              obtain ⟨y, hy⟩ : ∃ y : List S39, y = [] := ⟨_, rfl⟩
              rw [hhead, ← hy] at HROW
              have HHL : Aside0 (y.length ≤ 1000000) := ⟨by rw [hy]; simp⟩
              have HOI : Aside0 (Kd.R k39 39 wr wr.heap.size (fun _ => True) (.slice none 0 0) y) := ⟨by rw [hy]; exact Kd.R_nil _ _ _ _ _⟩
              have HBI := Aside0.mk (Below.refl wr.heap.size wr)
              clear hp hhead hy
              go_upto_region 10 with (fail)
              obtain ⟨wq, hwq⟩ : ∃ wq : World, wq = wr := ⟨wr, rfl⟩
              subst hwq
              have HR2I : Aside0 (Kd.C k36 wq A2 l2.length l2) := ⟨Kd.C_below HR2W.out HB.out⟩
              have HL2 := Aside0.mk Hg.out.2.2
              go_upto_region 11 with (fail)
              go_loopw [11, 41] (fun v11 v41 wr => ∃ (j : Nat) (row : List S39), v41 = .int .i64 j ∧ j ≤ l2.length ∧ row.length = y.length + j ∧ Aside0 (aggRow k g (l2.drop j) row = some (ro, er)) ∧ Aside0 (Kd.R k39 39 wr wq.heap.size (fun _ => True) v11 row) ∧ Aside0 (Below wq.heap.size wq wr)) (fun _ v41 _ => l2.length - (intOf v41).toNat)
              case atStart => exact ⟨0, y, rfl, Nat.zero_le _, rfl, HROW, HOI, HBI⟩
              case round =>
                clear HROW HOI HBI
                obtain ⟨j, row, rfl, hj, hrl, HROW, HOI, HBI⟩ := hrel
                have hl2 := HL2.out
                obtain ⟨Av, cv, ev⟩ := Kd.R_slice HOI.out
                subst ev
                by_cases hjt : j < l2.length
                · have q4 : decide ((j : Int) < (l2.length : Int)) = true := decide_eq_true (by omega)
                  have q5 : decide (j < l2.length) = true := decide_eq_true hjt
                  have s1 : (0 ≤ (j : Int)) = True := eq_true (by omega)
                  have s2 : ((j : Int) < (l2.length : Int)) = True := eq_true (by omega)
                  have hh := HROW.out
                  rw [List.drop_eq_getElem_cons hjt] at hh
                  have hrd := rd36 l2 j hjt
                  obtain ⟨ad2, e2, hy0, hy1⟩ := at_T36 HR2I.out (j : Int) (by omega) (by omega)
                  rw [Int.toNat_natCast] at hy0 hy1
                  replace hy0 := (HBI.out.cell (World.block_lt_of_cell? wq _ hy0)).trans hy0
                  replace hy1 := (HBI.out.cell (World.block_lt_of_cell? wq _ hy1)).trans hy1
                  rw [hrd] at hy0 hy1
                  generalize l2[j] = ag at *
                  subst e2
                  unfold aggRow at hh
                  replace hh := Option.bind_eq_some_iff.mp hh
                  obtain ⟨⟨x1, e1⟩, hone, hh⟩ := hh
                  have HONE : Aside0 (∀ W', Below wr.heap.size wr W' → Calls Try.prog 23 #[.slice A1 g.length c1, .agg #[.int .i64 ag.f0, .int .i64 ag.f1]] W' fun en w' => en = .returned (.tuple #[.agg #[.int .i64 x1.f0, .int .i64 x1.f1, .string x1.f2], .int .i64 e1]) ∧ Below W'.heap.size W' w') :=
                    ⟨fun W' hb => one_calls k _ c1 g ag.f0 ag.f1 x1 e1 W' (Kd.C_below HCg.out (HBI.out.trans (hb.mono HBI.out.size))) Hc1.out hone⟩
                  have HHH := Aside0.mk hh
                  have Hjt := Aside0.mk hjt
                  have Hrl := Aside0.mk hrl
                  clear hh hone hrd hjt HROW hrl
                  by_cases he : e1 = 0
                  · subst he
                    have HH2 : Aside0 (aggRow k g (l2.drop (j + 1)) (row ++ [x1]) = some (ro, er)) := ⟨by have := HHH.out; simpa using this⟩
                    clear HHH
                    go_upto_region 14 with (first
                      | (go_at_call 23; refine (HONE.out _ (below_alloc (Below.refl _ _) _)).mono ?_; rintro e w5 ⟨rfl, hb5⟩; have HB5 := Aside0.mk ((below_alloc (Below.refl wr.heap.size wr) (.cells #[.int .i64 ag.f0, .int .i64 ag.f1] 36)).trans (hb5.mono (by simp))); clear hb5))
                    have HB6 := Aside0.mk (below_alloc HB5.out (.cells #[.int .i64 x1.f0, .int .i64 x1.f1, .string x1.f2] 39))
                    have HOI6 := Aside0.mk (Kd.R_below HOI.out HB6.out)
                    have HBW6 := Aside0.mk (HBI.out.trans (HB6.out.mono HBI.out.size))
                    obtain ⟨m0, m1, m2⟩ := blk3 (blk_new w5 (.cells #[.int .i64 x1.f0, .int .i64 x1.f1, .string x1.f2] 39))
                    generalize w5.alloc (.cells #[.int .i64 x1.f0, .int .i64 x1.f1, .string x1.f2] 39) = w6 at *
                    have HAL : Aside0 ((row.length + 1) * 32 ≤ 140737488355328) := ⟨by have := Hrl.out; have := HHL.out; have := HL2.out; have := Hjt.out; omega⟩
                    go_wp2_with (((with_reducible refine gate_builtin (b := .append) (xs := #[.tmp 54, .tmp 56]) rfl ?_); at_builtin; refine Kd.R_append k39 (w0 := wq) wq.heap.size rfl (.tmp 54) (.tmp 56) 32 39 (.agg #[(.int .i64 0), (.int .i64 0), (.string ⟨#[]⟩)]) 32 rfl Try.underlying32 info39 rfl (by decide) (by omega) (.slice Av row.length cv) row x1 [.int .i64 x1.f0, .int .i64 x1.f1, .string x1.f2] (fun _ => True) (fun _ => False) rfl rfl (k39_mkM _ _ _ x1) (fun _ hk => hk.elim) (fun _ _ => trivial) HOI6.out HBW6.out (below_size HBW6.out) HAL.out ?_; intro v57 w7 ho7 hb7 hg7 hat7; have HO7 := Aside0.mk ho7; have HB7 := Aside0.mk hb7; clear ho7 hb7 hg7 hat7))
                    go_roundw
                    case rel => exact ⟨j + 1, row ++ [x1], by go_num, by have := Hjt.out; omega, by have := Hrl.out; simp; omega, HH2, HO7, HB7⟩
                    case measure => have := Hjt.out; simp [intOf]; omega
                  · have b1 : (e1 == 0) = false := by rw [beq_eq_false_iff_ne]; exact he
                    have hh := HHH.out
                    simp only [he, if_false] at hh
                    have H := Option.some.inj hh
                    simp only [Prod.mk.injEq] at H
                    obtain ⟨rfl, rfl⟩ := H
                    have hh2 := HREST.out
                    simp only [he, if_false] at hh2
                    have H := Option.some.inj hh2
                    simp only [Prod.mk.injEq] at H
                    obtain ⟨rfl, rfl⟩ := H
                    clear hh hh2 HHH HREST he
                    go_wp2_with (first
                      | (go_at_call 23; refine (HONE.out _ (below_alloc (Below.refl _ _) _)).mono ?_; rintro e w5 ⟨rfl, hb5⟩; have HB5 := Aside0.mk ((below_alloc (Below.refl wr.heap.size wr) (.cells #[.int .i64 ag.f0, .int .i64 ag.f1] 36)).trans (hb5.mono (by simp))); clear hb5))
                    refine bodyPost_ret (results_tmp2 rfl _ _ _) rfl ?_
                    refine ⟨_, rfl, Kd.S_nil _ _ _ _ _, ?_⟩
                    have h1 := HBI.out.trans (HB5.out.mono HBI.out.size)
                    have h2 := HBW2.out.trans ((HB.out.trans (h1.mono HB.out.size)).mono HSZ.out)
                    repeat (first | exact h2 | apply below_alloc | refine below_set ?_ (by have := h2.size; simp; omega))
                · have q4 : decide ((j : Int) < (l2.length : Int)) = false := decide_eq_false (by omega)
                  have q5 : decide (j < l2.length) = false := decide_eq_false hjt
                  have hh := HROW.out
                  rw [List.drop_eq_nil_of_le (by omega)] at hh
                  unfold aggRow at hh
                  have H := Option.some.inj hh
                  simp only [Prod.mk.injEq] at H
                  obtain ⟨rfl, rfl⟩ := H
                  have HH2 : Aside0 (aggAll k n l2 (gs.drop (i + 1)) (acc ++ [row]) = some (r1, r2)) := ⟨by have := HREST.out; simpa using this⟩
                  have HSW : Aside0 (Kd.S (Kd.slice 39 k39) 32 wr w2.heap.size (fun k => True ∧ k < wq.heap.size) (.slice Ao acc.length co) acc) := ⟨Kd.S_old HS.out HBI.out⟩
                  have HRW : Aside0 (Kd.R k39 39 wr w2.heap.size (fun k => wq.heap.size ≤ k) (.slice Av row.length cv) row) := ⟨Kd.R_lower (Kd.R_mono (Kd.R_bound HOI.out) (fun _ hk => hk.2.1)) HB.out.size⟩
                  have HBW : Aside0 (Below w2.heap.size w2 wr) := ⟨HB.out.trans (HBI.out.mono HB.out.size)⟩
                  have HLT : Aside0 (∀ k, (Value.slice Ao acc.length co).ownBlock = some k → k < wq.heap.size) := ⟨Kd.S_lt HS.out⟩
                  clear hh hjt HROW HREST hrl
                  go_wp2_with (((with_reducible refine gate_builtin (b := .append) (xs := #[.tmp 59, .tmp 61]) rfl ?_); at_builtin; refine Kd.S_append (Kd.slice 39 k39) (w0 := w2) w2.heap.size rfl (.tmp 59) (.tmp 61) 30 32 (.slice none 0 0) 24 rfl Try.underlying30 info32 rfl (by decide) (by omega) (.slice Ao acc.length co) acc row [.slice Av row.length cv] (fun _ => True) (fun k => wq.heap.size ≤ k) rfl rfl (Kd.M_row HRW.out) (fun k hk => ⟨trivial, fun e => by have := HLT.out k e.symm; omega⟩) (fun _ _ => trivial) (Kd.S_mono HSW.out (fun k hk => ⟨trivial, by omega⟩)) HBW.out (below_size HBW.out) (by have := Hal.out; have := Hlt.out; have := HGL.out; omega) ?_; intro v62 w8 ho8 hb8 hg8 hat8; have HO8 := Aside0.mk ho8; have HB8 := Aside0.mk hb8; clear ho8 hb8 hg8 hat8))
                  go_roundw
                  case rel => exact ⟨i + 1, acc ++ [row], by go_num, by have := Hlt.out; omega, by have := Hal.out; simp; omega, HH2, HO8, HB8⟩
                  case measure => have := Hlt.out; simp [intOf]; omega
          · have q2 : decide ((i : Int) < (gs.length : Int)) = false := decide_eq_false (by omega)
            have q3 : decide (i < gs.length) = false := decide_eq_false hlt
            have hh := HH.out
            rw [List.drop_eq_nil_of_le (by omega)] at hh
            unfold aggAll at hh
            have H := Option.some.inj hh
            simp only [Prod.mk.injEq] at H
            obtain ⟨rfl, rfl⟩ := H
            have HEND : Aside0 (Kd.S (Kd.slice 39 k39) 32 wr w.heap.size (fun _ => True) (.slice Ao acc.length co) acc ∧ Below w.heap.size w wr) := ⟨Kd.S_lower HS.out HSZ.out, HBW2.out.trans (HB.out.mono HSZ.out)⟩
            clear hh hlt
            go_wp2
            refine bodyPost_ret (results_tmp2 rfl _ _ _) rfl ?_
            exact ⟨_, rfl, HEND.out.1, HEND.out.2⟩
      · rw [if_neg hg] at h
        cases h
end Go.Proofs.Ytedgfhijkkedaaa.PAgg
