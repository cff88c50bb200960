/-
  By hand: agg.one and its closure.
-/
import Derived.Test.YtedgfhijkkedaaaGrE
namespace Go.Proofs.Ytedgfhijkkedaaa.PAgg
open Go.RowKit Go.Proofs.YtedgfhijkkedaaaW.PrintWords Go.Proofs.YtedgfhijkkedaaaW.PrintLast Go.Proofs.YtedgfhijkkedaaaW.PrintMore
attribute [local go_sem] max2_int min2_int max_two min_two max_three min_three max_four min_four
set_option linter.unusedVariables false
set_option linter.unusedSimpArgs false

def endOf (f : List S39 → S39) (l : List S39) : S39 := if l.length = 0 then z39 else f l

set_option maxHeartbeats 4000000 in
set_option maxRecDepth 100000 in
theorem end_min (bl : Nat) (A : Option Addr) (c : Nat) (l : List S39) (W : World) (hb : W.cell? ⟨bl, 0, none⟩ = some (.slice A l.length c)) (hr : Kd.C k39 W A l.length l) :
    Calls Try.prog 33 #[.func (.func 36) #[] #[], .pointer (some ⟨bl, 0, none⟩)] W fun e w' => e = .returned (.tuple #[.agg #[.int .i64 (endOf minOf l).f0, .int .i64 (endOf minOf l).f1, .string (endOf minOf l).f2], .int .i64 0]) ∧ Below W.heap.size W w' := by
  have hu39 := Try.underlying39
  have hblt := World.block_lt_of_cell? W _ hb
  have HR := Aside0.mk hr
  clear hr
  by_cases h0 : l.length = 0
  · have he : endOf minOf l = z39 := by unfold endOf; rw [if_pos h0]
    have HB := Aside0.mk (below_alloc (Below.refl W.heap.size W) (.cells #[.int .i64 0, .int .i64 0, .string ⟨#[]⟩] 39))
    have HG := Aside0.mk (blk_new W (.cells #[.int .i64 0, .int .i64 0, .string ⟨#[]⟩] 39))
    rw [he]
    clear he
    go_enter Try.func33, Try.ntmps33
    go_wp2
    refine bodyPost_ret (results_ct rfl _ _ W.heap.size 39 #[.int .i64 0, .int .i64 0, .string ⟨#[]⟩] (0, 0) _ rfl HG.out hu39 rfl (by kernel_rfl)) rfl ⟨rfl, HB.out⟩
  · have he : endOf minOf l = minOf l := by unfold endOf; rw [if_neg h0]
    rw [he]
    have HB := Aside0.mk (below_alloc (Below.refl W.heap.size W) (.cells #[.int .i64 0, .int .i64 0, .string ⟨#[]⟩] 39))
    have HG := Aside0.mk (blk_new W (.cells #[.int .i64 0, .int .i64 0, .string ⟨#[]⟩] 39))
    have HC := Aside0.mk (min_calls A c l (by omega) (W.alloc (.cells #[.int .i64 0, .int .i64 0, .string ⟨#[]⟩] 39)) (Kd.C_below HR.out HB.out))
    have hl1 : ((l.length : Int) == 0) = false := by rw [beq_eq_false_iff_ne]; omega
    have hl2 : (l.length == 0) = false := by rw [beq_eq_false_iff_ne]; exact h0
    generalize minOf l = r at *
    clear he h0
    go_enter Try.func33, Try.ntmps33
    go_wp2_with fail
    refine HC.out.mono ?_
    rintro e w2 ⟨rfl, hb2⟩
    have HG2 := Aside0.mk (blk_below HG.out hb2)
    have HB2 := Aside0.mk (HB.out.trans (hb2.mono (by simp)))
    obtain ⟨n0, n1, n2⟩ := blk3 HG2.out
    have f0 := blk_frozen HG2.out 0
    have f1 := blk_frozen HG2.out 1
    have f2 := blk_frozen HG2.out 2
    clear hb2
    go_wp2
    refine bodyPost_ret (results_ct rfl _ _ W.heap.size 39 #[.int .i64 r.f0, .int .i64 r.f1, .string r.f2] (0, 0) _ rfl (blk_put (cs := #[.int .i64 r.f0, .int .i64 r.f1, .string ⟨#[]⟩]) (blk_put (cs := #[.int .i64 r.f0, .int .i64 0, .string ⟨#[]⟩]) (blk_put HG2.out 0 _ rfl) 1 _ rfl) 2 _ rfl) hu39 rfl (by kernel_rfl)) rfl ⟨rfl, below_set (below_set (below_set HB2.out (by simp)) (by simp)) (by simp)⟩

set_option maxHeartbeats 4000000 in
set_option maxRecDepth 100000 in
theorem end_max (bl : Nat) (A : Option Addr) (c : Nat) (l : List S39) (W : World) (hb : W.cell? ⟨bl, 0, none⟩ = some (.slice A l.length c)) (hr : Kd.C k39 W A l.length l) :
    Calls Try.prog 33 #[.func (.func 37) #[] #[], .pointer (some ⟨bl, 0, none⟩)] W fun e w' => e = .returned (.tuple #[.agg #[.int .i64 (endOf maxOf l).f0, .int .i64 (endOf maxOf l).f1, .string (endOf maxOf l).f2], .int .i64 0]) ∧ Below W.heap.size W w' := by
  have hu39 := Try.underlying39
  have hblt := World.block_lt_of_cell? W _ hb
  have HR := Aside0.mk hr
  clear hr
  by_cases h0 : l.length = 0
  · have he : endOf maxOf l = z39 := by unfold endOf; rw [if_pos h0]
    have HB := Aside0.mk (below_alloc (Below.refl W.heap.size W) (.cells #[.int .i64 0, .int .i64 0, .string ⟨#[]⟩] 39))
    have HG := Aside0.mk (blk_new W (.cells #[.int .i64 0, .int .i64 0, .string ⟨#[]⟩] 39))
    rw [he]
    clear he
    go_enter Try.func33, Try.ntmps33
    go_wp2
    refine bodyPost_ret (results_ct rfl _ _ W.heap.size 39 #[.int .i64 0, .int .i64 0, .string ⟨#[]⟩] (0, 0) _ rfl HG.out hu39 rfl (by kernel_rfl)) rfl ⟨rfl, HB.out⟩
  · have he : endOf maxOf l = maxOf l := by unfold endOf; rw [if_neg h0]
    rw [he]
    have HB := Aside0.mk (below_alloc (Below.refl W.heap.size W) (.cells #[.int .i64 0, .int .i64 0, .string ⟨#[]⟩] 39))
    have HG := Aside0.mk (blk_new W (.cells #[.int .i64 0, .int .i64 0, .string ⟨#[]⟩] 39))
    have HC := Aside0.mk (max_calls A c l (by omega) (W.alloc (.cells #[.int .i64 0, .int .i64 0, .string ⟨#[]⟩] 39)) (Kd.C_below HR.out HB.out))
    have hl1 : ((l.length : Int) == 0) = false := by rw [beq_eq_false_iff_ne]; omega
    have hl2 : (l.length == 0) = false := by rw [beq_eq_false_iff_ne]; exact h0
    generalize maxOf l = r at *
    clear he h0
    go_enter Try.func33, Try.ntmps33
    go_wp2_with fail
    refine HC.out.mono ?_
    rintro e w2 ⟨rfl, hb2⟩
    have HG2 := Aside0.mk (blk_below HG.out hb2)
    have HB2 := Aside0.mk (HB.out.trans (hb2.mono (by simp)))
    obtain ⟨n0, n1, n2⟩ := blk3 HG2.out
    have f0 := blk_frozen HG2.out 0
    have f1 := blk_frozen HG2.out 1
    have f2 := blk_frozen HG2.out 2
    clear hb2
    go_wp2
    refine bodyPost_ret (results_ct rfl _ _ W.heap.size 39 #[.int .i64 r.f0, .int .i64 r.f1, .string r.f2] (0, 0) _ rfl (blk_put (cs := #[.int .i64 r.f0, .int .i64 r.f1, .string ⟨#[]⟩]) (blk_put (cs := #[.int .i64 r.f0, .int .i64 0, .string ⟨#[]⟩]) (blk_put HG2.out 0 _ rfl) 1 _ rfl) 2 _ rfl) hu39 rfl (by kernel_rfl)) rfl ⟨rfl, below_set (below_set (below_set HB2.out (by simp)) (by simp)) (by simp)⟩

/-- What rows of a group make, in one of its ways: a value, and an error's number. -/
def oneF (k : Nat) (l0 : List (List S39)) (op col : Int) : Option (S39 × Int) :=
  if op = 1 then some (⟨1, (l0.length : Int), ⟨#[]⟩⟩, 0) else (agg_column.f k l0 col).bind fun l =>
    if op = 2 then (agg_total.f k l).bind fun t => some (⟨t.1, t.2.1, t.2.2.1⟩, t.2.2.2) else if op = 3 then some (endOf minOf l, 0) else if op = 4 then some (endOf maxOf l, 0) else some (z39, 0)
theorem oneF_mono (l0 : List (List S39)) (op col : Int) (k : Nat) : LeO (oneF k l0 op col) (oneF (k + 1) l0 op col) := by
  unfold oneF
  refine LeO.ite (LeO.refl _) (LeO.bind (agg_column.mono _ _ k) (fun l => LeO.ite (LeO.bind (agg_total.mono _ k) (fun _ => LeO.refl _)) (LeO.refl _)))

set_option maxHeartbeats 8000000 in
set_option maxRecDepth 100000 in
theorem one_calls (k : Nat) (A0 : Option Addr) (c0 : Nat) (l0 : List (List S39)) (op col : Int) (r : S39) (e : Int) (w : World) (hr0 : Kd.C (Kd.slice 39 k39) w A0 l0.length l0) (hc0 : l0.length ≤ c0) (h : oneF k l0 op col = some (r, e)) :
    Calls Try.prog 23 #[.slice A0 l0.length c0, .agg #[.int .i64 op, .int .i64 col]] w fun en w' => en = .returned (.tuple #[.agg #[.int .i64 r.f0, .int .i64 r.f1, .string r.f2], .int .i64 e]) ∧ Below w.heap.size w w' := by
  have hu39 := Try.underlying39
  have hu36 := Try.underlying36
  have HR0 := Aside0.mk hr0
  have Hc0 := Aside0.mk hc0
  have hlm := hr0.2.1
  have HA : Aside0 (Below w.heap.size w (w.alloc (.cells #[.int .i64 op, .int .i64 col] 36))) := ⟨below_alloc (Below.refl _ _) _⟩
  have HB : Aside0 (Below w.heap.size w ((w.alloc (.cells #[.int .i64 op, .int .i64 col] 36)).alloc (.cells #[.int .i64 0, .int .i64 0, .string ⟨#[]⟩] 39))) := ⟨below_alloc HA.out _⟩
  have HP : Aside0 (((w.alloc (.cells #[.int .i64 op, .int .i64 col] 36)).alloc (.cells #[.int .i64 0, .int .i64 0, .string ⟨#[]⟩] 39)).heap[w.heap.size]? = some (.cells #[.int .i64 op, .int .i64 col] 36 (0, 0))) := ⟨blk_alloc (blk_new _ _) _⟩
  have HG : Aside0 (((w.alloc (.cells #[.int .i64 op, .int .i64 col] 36)).alloc (.cells #[.int .i64 0, .int .i64 0, .string ⟨#[]⟩] 39)).heap[w.heap.size + 1]? = some (.cells #[.int .i64 0, .int .i64 0, .string ⟨#[]⟩] 39 (0, 0))) := ⟨by
    have := blk_new (w.alloc (.cells #[.int .i64 op, .int .i64 col] 36)) (.cells #[.int .i64 0, .int .i64 0, .string ⟨#[]⟩] 39)
    rwa [show (w.alloc (.cells #[.int .i64 op, .int .i64 col] 36)).heap.size = w.heap.size + 1 by simp] at this⟩
  clear hr0 hc0
  unfold oneF at h
  go_enter Try.func23, Try.ntmps23
  go_upto_region 1 with (fail)
  generalize (w.alloc (.cells #[.int .i64 op, .int .i64 col] 36)).alloc (.cells #[.int .i64 0, .int .i64 0, .string ⟨#[]⟩] 39) = W at *
  have hp0 : W.cell? ⟨w.heap.size, 0, none⟩ = some (.int .i64 op) := (blk_cell HP.out 0).trans rfl
  have hp1 : W.cell? ⟨w.heap.size, 1, none⟩ = some (.int .i64 col) := (blk_cell HP.out 1).trans rfl
  by_cases h1 : op = 1
  · rw [if_pos h1] at h
    have H := Option.some.inj h
    simp only [Prod.mk.injEq] at H
    obtain ⟨rfl, rfl⟩ := H
    subst h1
    clear h
    obtain ⟨n0, n1, n2⟩ := blk3 HG.out
    have f0 := blk_frozen HG.out 0
    have f1 := blk_frozen HG.out 1
    have f2 := blk_frozen HG.out 2
    go_wp2
    refine bodyPost_ret (results_ct rfl _ _ (w.heap.size + 1) 39 #[.int .i64 1, .int .i64 (l0.length : Int), .string ⟨#[]⟩] (0, 0) _ rfl (blk_put (cs := #[.int .i64 1, .int .i64 (l0.length : Int), .string ⟨#[]⟩]) (blk_put (cs := #[.int .i64 1, .int .i64 0, .string ⟨#[]⟩]) (blk_put HG.out 0 _ rfl) 1 _ rfl) 2 _ rfl) hu39 rfl (by kernel_rfl)) rfl ⟨rfl, below_set (below_set (below_set HB.out (by simp)) (by simp)) (by simp)⟩
  · rw [if_neg h1] at h
    have b1 : (op == 1) = false := by rw [beq_eq_false_iff_ne]; exact h1
    replace h := Option.bind_eq_some_iff.mp h
    obtain ⟨l, hcol, h⟩ := h
    have HCO := Aside0.mk hcol
    clear hcol h1
    go_upto_region 4 with (go_at_call 32; refine (agg_column.calls k A0 c0 l0 col l _ (Kd.C_below HR0.out HB.out) Hc0.out HCO.out).mono ?_; rintro e w2 ⟨v2, rfl, ho2, hb2⟩; obtain ⟨A2, c2, e2⟩ := Kd.R_slice ho2; subst e2; have HO2 := Aside0.mk ho2; have HBB := Aside0.mk hb2; clear ho2 hb2)
    have HG2 : Aside0 ((w2.alloc (.cells #[.slice A2 l.length c2] 32)).heap[w.heap.size + 1]? = some (.cells #[.int .i64 0, .int .i64 0, .string ⟨#[]⟩] 39 (0, 0))) := ⟨blk_alloc (blk_below HG.out (HBB.out.mono (Nat.le_refl _))) _⟩
    have HW2 : Aside0 (Below w.heap.size w (w2.alloc (.cells #[.slice A2 l.length c2] 32))) := ⟨below_alloc (HB.out.trans (HBB.out.mono HB.out.size)) _⟩
    have hp20 : (w2.alloc (.cells #[.slice A2 l.length c2] 32)).cell? ⟨w.heap.size, 0, none⟩ = some (.int .i64 op) := (blk_cell (blk_alloc (blk_below HP.out (HBB.out.mono (Nat.le_refl _))) _) 0).trans rfl
    have hx2 : (w2.alloc (.cells #[.slice A2 l.length c2] 32)).cell? ⟨w2.heap.size, 0, none⟩ = some (.slice A2 l.length c2) := (blk_cell (blk_new w2 (.cells #[.slice A2 l.length c2] 32)) 0).trans rfl
    obtain ⟨_, hcl, hC⟩ := Kd.R_reads' HO2.out
    have HC2 : Aside0 (Kd.C k39 (w2.alloc (.cells #[.slice A2 l.length c2] 32)) A2 l.length l) := ⟨Kd.C_below hC (below_alloc (Below.refl w2.heap.size w2) _)⟩
    have HCL := Aside0.mk hcl
    have HSZ : Aside0 (w.heap.size + 1 < (w2.alloc (.cells #[.slice A2 l.length c2] 32)).heap.size) := ⟨by
      have := (Array.getElem?_eq_some_iff.mp HG2.out).1; exact this⟩
    clear hcl hC
    generalize w2.alloc (.cells #[.slice A2 l.length c2] 32) = W2 at *
    have fin : Aside0 (∀ (r : S39) (w3 : World), Below W2.heap.size W2 w3 → w3.heap[w.heap.size + 1]? = some (.cells #[.int .i64 0, .int .i64 0, .string ⟨#[]⟩] 39 (0, 0)) ∧ Below w.heap.size w w3) := ⟨fun r w3 hb => ⟨blk_below HG2.out hb, HW2.out.trans (hb.mono HW2.out.size)⟩⟩
    by_cases h2 : op = 2
    · rw [if_pos h2] at h
      subst h2
      replace h := Option.bind_eq_some_iff.mp h
      obtain ⟨⟨t1, t2, t3, t4⟩, htot, h⟩ := h
      have H := Option.some.inj h
      simp only [Prod.mk.injEq] at H
      obtain ⟨rfl, rfl⟩ := H
      have HT := Aside0.mk (agg_total.calls k A2 c2 l t1 t2 t3 t4 W2 HC2.out HCL.out htot)
      clear htot h
      go_upto_region 7 with (fail)
      go_wp2_with (go_at_call 35; refine HT.out.mono ?_; rintro e w3 ⟨rfl, hb3⟩; have HF := Aside0.mk (fin.out z39 w3 hb3); obtain ⟨n0, n1, n2⟩ := blk3 HF.out.1; have f0 := blk_frozen HF.out.1 0; have f1 := blk_frozen HF.out.1 1; have f2 := blk_frozen HF.out.1 2; clear hb3)
      refine bodyPost_ret (results_ct rfl _ _ (w.heap.size + 1) 39 #[.int .i64 t1, .int .i64 t2, .string t3] (0, 0) _ rfl (blk_put (cs := #[.int .i64 t1, .int .i64 t2, .string ⟨#[]⟩]) (blk_put (cs := #[.int .i64 t1, .int .i64 0, .string ⟨#[]⟩]) (blk_put HF.out.1 0 _ rfl) 1 _ rfl) 2 _ rfl) hu39 rfl (by kernel_rfl)) rfl ⟨rfl, below_set (below_set (below_set HF.out.2 (by simp)) (by simp)) (by simp)⟩
    · rw [if_neg h2] at h
      have b2 : (op == 2) = false := by rw [beq_eq_false_iff_ne]; exact h2
      clear h2
      by_cases h3 : op = 3
      · rw [if_pos h3] at h
        subst h3
        have H := Option.some.inj h
        simp only [Prod.mk.injEq] at H
        obtain ⟨hr, rfl⟩ := H
        have HT := Aside0.mk (end_min w2.heap.size A2 c2 l W2 hx2 HC2.out)
        clear h
        rw [hr] at HT
        clear hr
        go_upto_region 9 with (fail)
        go_wp2_with fail
        refine HT.out.mono ?_
        rintro e w3 ⟨rfl, hb3⟩
        have HF := Aside0.mk (fin.out z39 w3 hb3)
        obtain ⟨n0, n1, n2⟩ := blk3 HF.out.1
        have f0 := blk_frozen HF.out.1 0
        have f1 := blk_frozen HF.out.1 1
        have f2 := blk_frozen HF.out.1 2
        clear hb3
        go_wp2
        refine bodyPost_ret (results_ct rfl _ _ (w.heap.size + 1) 39 #[.int .i64 r.f0, .int .i64 r.f1, .string r.f2] (0, 0) _ rfl (blk_put (cs := #[.int .i64 r.f0, .int .i64 r.f1, .string ⟨#[]⟩]) (blk_put (cs := #[.int .i64 r.f0, .int .i64 0, .string ⟨#[]⟩]) (blk_put HF.out.1 0 _ rfl) 1 _ rfl) 2 _ rfl) hu39 rfl (by kernel_rfl)) rfl ⟨rfl, below_set (below_set (below_set HF.out.2 (by simp)) (by simp)) (by simp)⟩
      · rw [if_neg h3] at h
        have b3 : (op == 3) = false := by rw [beq_eq_false_iff_ne]; exact h3
        clear h3
        by_cases h4 : op = 4
        · rw [if_pos h4] at h
          subst h4
          have H := Option.some.inj h
          simp only [Prod.mk.injEq] at H
          obtain ⟨hr, rfl⟩ := H
          have HT := Aside0.mk (end_max w2.heap.size A2 c2 l W2 hx2 HC2.out)
          clear h
          rw [hr] at HT
          clear hr
          go_upto_region 11 with (fail)
          go_wp2_with fail
          refine HT.out.mono ?_
          rintro e w3 ⟨rfl, hb3⟩
          have HF := Aside0.mk (fin.out z39 w3 hb3)
          obtain ⟨n0, n1, n2⟩ := blk3 HF.out.1
          have f0 := blk_frozen HF.out.1 0
          have f1 := blk_frozen HF.out.1 1
          have f2 := blk_frozen HF.out.1 2
          clear hb3
          go_wp2
          refine bodyPost_ret (results_ct rfl _ _ (w.heap.size + 1) 39 #[.int .i64 r.f0, .int .i64 r.f1, .string r.f2] (0, 0) _ rfl (blk_put (cs := #[.int .i64 r.f0, .int .i64 r.f1, .string ⟨#[]⟩]) (blk_put (cs := #[.int .i64 r.f0, .int .i64 0, .string ⟨#[]⟩]) (blk_put HF.out.1 0 _ rfl) 1 _ rfl) 2 _ rfl) hu39 rfl (by kernel_rfl)) rfl ⟨rfl, below_set (below_set (below_set HF.out.2 (by simp)) (by simp)) (by simp)⟩
        · rw [if_neg h4] at h
          have b4 : (op == 4) = false := by rw [beq_eq_false_iff_ne]; exact h4
          clear h4
          have H := Option.some.inj h
          simp only [Prod.mk.injEq] at H
          obtain ⟨rfl, rfl⟩ := H
          clear h
          have HF := Aside0.mk (fin.out z39 W2 (Below.refl _ _))
          obtain ⟨n0, n1, n2⟩ := blk3 HF.out.1
          have f0 := blk_frozen HF.out.1 0
          have f1 := blk_frozen HF.out.1 1
          have f2 := blk_frozen HF.out.1 2
          go_wp2
          refine bodyPost_ret (results_ct rfl _ _ (w.heap.size + 1) 39 #[.int .i64 0, .int .i64 0, .string ⟨#[]⟩] (0, 0) _ rfl (blk_put (cs := #[.int .i64 0, .int .i64 0, .string ⟨#[]⟩]) (blk_put (cs := #[.int .i64 0, .int .i64 0, .string ⟨#[]⟩]) (blk_put HF.out.1 0 _ rfl) 1 _ rfl) 2 _ rfl) hu39 rfl (by kernel_rfl)) rfl ⟨rfl, below_set (below_set (below_set HF.out.2 (by simp)) (by simp)) (by simp)⟩
end Go.Proofs.Ytedgfhijkkedaaa.PAgg
