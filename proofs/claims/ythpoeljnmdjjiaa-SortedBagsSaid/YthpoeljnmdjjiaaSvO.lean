/-
  Sorting, by hand: sorted.Bag, its walk (rows of 10000 or fewer).
-/
import Derived.Test.YthpoeljnmdjjiaaSvN
namespace Go.Proofs.Ythpoeljnmdjjiaa.PSrn
open Go.RowKit Go.Proofs.Ythpoeljnmdjjiaa.Hand Go.Proofs.Ythpoeljnmdjjiaa.Srt Go.Proofs.YthpoeljnmdjjiaaW.PrintWords Go.Proofs.YthpoeljnmdjjiaaW.PrintLast Go.Proofs.YthpoeljnmdjjiaaW.PrintMore
set_option linter.unusedVariables false
set_option linter.unusedSimpArgs false

def bagF (a b : List (List S28)) : Option Bool := if a.length ≤ 10000 ∧ b.length ≤ 10000 then some (bagB a b) else none
theorem below_own {w W W' : World} {v : Value} (h : Below w.heap.size w W) (hg : W.grownBy W' v.ownBlock) (hv : ∀ k, v.ownBlock = some k → w.heap.size ≤ k) : Below w.heap.size w W' := h.grown hg h.size hv

set_option maxHeartbeats 4000000 in
set_option maxRecDepth 100000 in
theorem bag_calls (A0 : Option Addr) (c0 : Nat) (l0 : List (List S28)) (A1 : Option Addr) (c1 : Nat) (l1 : List (List S28)) (r1 : Bool) (w : World)
    (hr0 : Kd.C (Kd.slice 28 k28) w A0 l0.length l0) (hc0 : l0.length ≤ c0) (hr1 : Kd.C (Kd.slice 28 k28) w A1 l1.length l1) (hc1 : l1.length ≤ c1) (h : bagF l0 l1 = some r1) :
    Calls Try.prog 13 #[.slice A0 l0.length c0, .slice A1 l1.length c1] w fun e w' => e = .returned (.bool r1) ∧ Below w.heap.size w w' := by
  unfold bagF at h
  have hg : l0.length ≤ 10000 ∧ l1.length ≤ 10000 := Decidable.byContradiction (fun hg => by rw [if_neg hg] at h; cases h)
  rw [if_pos hg] at h
  have hr := Option.some.inj h
  subst hr
  obtain ⟨hl0, hl1⟩ := hg
  obtain ⟨Hf, hH, hC⟩ := rows_hd hr0
  obtain ⟨Hg, hH1, hC1⟩ := rows_hd hr1
  have hlen : ((List.range l0.length).map fun i => [hdr (Hf i)]).length = l0.length := by simp
  have hlen1 : ((List.range l1.length).map fun i => [hdr (Hg i)]).length = l1.length := by simp
  have hclone := cloneL_calls A0 c0 ((List.range l0.length).map fun i => [hdr (Hf i)]) w (by rw [hlen]; exact hC) (by rw [hlen]; omega)
  rw [hlen] at hclone
  have HCA := Aside0.mk hclone
  have HCB : Aside0 (∀ w2, Below w.heap.size w w2 → Calls Try.prog 25 #[.slice A1 l1.length c1] w2 fun e w' => ∃ v, e = .returned v ∧ Kd.R (Kd.raw 1) 26 w' w2.heap.size (fun _ => True) v ((List.range l1.length).map fun i => [hdr (Hg i)]) ∧ Below w2.heap.size w2 w') := ⟨fun w2 hb => by
    have := cloneL_calls A1 c1 ((List.range l1.length).map fun i => [hdr (Hg i)]) w2 (by rw [hlen1]; exact Kd.C_below hC1 hb) (by rw [hlen1]; omega)
    rw [hlen1] at this
    exact this⟩
  have HH := Aside0.mk hH
  have HH1 := Aside0.mk hH1
  clear h hr0 hr1 hC hH hC1 hH1 hlen hlen1 hclone hc0 hc1
  go_enter Try.func13, Try.ntmps13
  go_upto_region 2 with (first
    | (go_at_call 25; refine HCA.out.mono ?_; rintro e w2 ⟨v, rfl, ho, hb⟩; obtain ⟨Av, cv, ev⟩ := Kd.R_slice ho; subst ev; rw [List.length_map, List.length_range] at ho; rw [List.length_map, List.length_range]; have HO := Aside0.mk ho; have HB2 := Aside0.mk hb; clear ho hb HCA)
    | (go_at_call 25; refine (HCB.out _ HB2.out).mono ?_; rintro e w3 ⟨v, rfl, ho, hb⟩; obtain ⟨Au, cu, eu⟩ := Kd.R_slice ho; subst eu; rw [List.length_map, List.length_range] at ho; rw [List.length_map, List.length_range]; have HO1 := Aside0.mk ho; have HB3 := Aside0.mk hb; clear ho hb HCB))
  have hBw3 : Below w.heap.size w w3 := HB2.out.trans (HB3.out.mono HB2.out.size)
  have hsx := (SB.of_clone HO.out).below HB3.out
  have hsy := SB.of_clone (Kd.R_lower HO1.out HB2.out.size)
  have hxb := Kd.R_base HO.out
  have hxl := Kd.R_lt HO.out
  have hyb := Kd.R_base HO1.out
  have hne : ∀ k k', (Value.slice Av l0.length cv).ownBlock = some k → (Value.slice Au l1.length cu).ownBlock = some k' → k ≠ k' := fun k k' e1 e2 => by
    have := hxl k e1
    have := hyb k' e2
    omega
  have HSX := Aside0.mk hsx
  have HSY := Aside0.mk hsy
  have HNE := Aside0.mk hne
  have HXB := Aside0.mk hxb
  have HYB : Aside0 (∀ k, (Value.slice Au l1.length cu).ownBlock = some k → w.heap.size ≤ k) := ⟨fun k e => Nat.le_trans HB2.out.size (hyb k e)⟩
  have HB := Aside0.mk hBw3
  have HS1 := Aside0.mk (sortBlk_any w l0 Hf Av cv w3 HH.out hBw3 hl0 hsx)
  clear hBw3 hsx hsy hne hxb hxl hyb HO HO1 HB2 HB3
  go_upto_region 3 with (go_at_call 30; refine HS1.out.mono ?_; rintro e w4 ⟨rfl, hs⟩; have HT1 := Aside0.mk hs; clear hs HS1)
  obtain ⟨Z1, wk1, sb1, gr1⟩ := HT1.out
  have hB4 : Below w.heap.size w w4 := below_own HB.out gr1 HXB.out
  have hsy4 : SB w.heap.size l1 Hg (.slice Au l1.length cu) (List.range l1.length) w4 := HSY.out.keep (fun k hk hlt => gr1.block k hlt (fun he => HNE.out k k he.symm hk rfl))
  have HS2 := Aside0.mk (sortBlk_any w l1 Hg Au cu w4 HH1.out hB4 hl1 hsy4)
  have HB4 := Aside0.mk hB4
  have HSB1 := Aside0.mk sb1
  have HWK1 := Aside0.mk wk1
  clear gr1 sb1 wk1 hB4 hsy4 HT1 HSX HSY HB
  go_upto_region 4 with (go_at_call 30; refine HS2.out.mono ?_; rintro e w5 ⟨rfl, hs⟩; have HT2 := Aside0.mk hs; clear hs HS2)
  obtain ⟨Z2, wk2, sb2, gr2⟩ := HT2.out
  have hB5 : Below w.heap.size w w5 := below_own HB4.out gr2 HYB.out
  have sb15 := HSB1.out.keep (W1 := w5) (fun k hk hlt => gr2.block k hlt (fun he => HNE.out k k hk he.symm rfl))
  have hrx := sb15.reads (HH.out.below hB5) (by omega)
  have hry := sb2.reads (HH1.out.below hB5) (by omega)
  have ex := inFull_of HWK1.out HSB1.out.1
  have ey := inFull_of wk2 sb2.1
  have lx : (inFull l0).length = l0.length := by rw [(inFull_ok l0).2.length_eq]
  have ly : (inFull l1).length = l1.length := by rw [(inFull_ok l1).2.length_eq]
  rw [ex] at hrx
  rw [ey] at hry
  have hq := equalFunc_calls Av cv (inFull l0) Au cu (inFull l1) w5 hrx hry
  rw [lx, ly] at hq
  have HQ := Aside0.mk hq
  have HB5 := Aside0.mk hB5
  clear hq hB5 sb15 hrx hry ex ey lx ly wk2 sb2 gr2 HT2 HSB1 HWK1
  go_wp2_with (go_at_call 32; refine HQ.out.mono ?_; rintro e w6 ⟨rfl, hb6⟩; have HB6 := Aside0.mk (HB5.out.trans (hb6.mono HB5.out.size)); clear hb6)
  go_ret
  exact ⟨rfl, HB6.out⟩
end Go.Proofs.Ythpoeljnmdjjiaa.PSrn
