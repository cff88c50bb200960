/-
  By hand: agg.groups.
-/
import Derived.Test.YtedgfhijkkedaaaGrC
import Derived.Outline
namespace Go.Proofs.Ytedgfhijkkedaaa.PAgg
open Go.RowKit Go.Proofs.YtedgfhijkkedaaaW.PrintWords Go.Proofs.YtedgfhijkkedaaaW.PrintLast Go.Proofs.YtedgfhijkkedaaaW.PrintMore
attribute [local go_sem] max2_int min2_int max_two min_two max_three min_three max_four min_four
set_option linter.unusedVariables false
set_option linter.unusedSimpArgs false

/-- A row put to the group with its first values, or behind all groups. -/
def putRow (n : Nat) (r : List S39) : List (List (List S39)) → List (List (List S39))
  | [] => [[r]]
  | g :: t => if like n r g = true then (g ++ [r]) :: t else g :: putRow n r t
def groupsOf (n : Nat) (l : List (List S39)) : List (List (List S39)) := l.foldl (fun gs r => putRow n r gs) []
theorem groupsOf_snoc (n : Nat) (l : List (List S39)) (r : List S39) : groupsOf n (l ++ [r]) = putRow n r (groupsOf n l) := by
  unfold groupsOf; rw [List.foldl_append]; rfl
theorem put_at (n : Nat) (r : List S39) : ∀ (gs : List (List (List S39))) (i : Int), 0 ≤ i →
    (firstAt (like n r) gs i = -1 ∧ putRow n r gs = gs ++ [[r]]) ∨ ∃ (j : Nat) (hj : j < gs.length), firstAt (like n r) gs i = i + j ∧ putRow n r gs = gs.set j (gs[j] ++ [r])
  | [], i, _ => .inl ⟨rfl, rfl⟩
  | g :: t, i, h => by
    rw [firstAt_cons]
    unfold putRow
    by_cases c : like n r g = true
    · rw [if_pos c, if_pos c]
      exact .inr ⟨0, by simp, by simp, by simp⟩
    · rw [if_neg c, if_neg c]
      rcases put_at n r t (i + 1) (by omega) with ⟨h1, h2⟩ | ⟨j, hj, h1, h2⟩
      · exact .inl ⟨h1, by rw [h2]; rfl⟩
      · exact .inr ⟨j + 1, by simp; omega, by rw [h1]; simp; omega, by rw [h2]; simp⟩
/-- Groups are not empty, and of rows that are long enough; and how many there are. -/
def good (n : Int) (m : Nat) (gs : List (List (List S39))) : Prop := gs.length ≤ m ∧ ∀ g ∈ gs, 0 < g.length ∧ n ≤ ((rd_L3 g 0).length : Int) ∧ g.length ≤ m
theorem good_put (n : Int) (m : Nat) (r : List S39) (gs : List (List (List S39))) (h : good n m gs) (hr : n ≤ (r.length : Int)) : good n (m + 1) (putRow n.toNat r gs) := by
  obtain ⟨h1, h2⟩ := h
  rcases put_at n.toNat r gs 0 (by omega) with ⟨_, e⟩ | ⟨j, hj, _, e⟩
  · rw [e]
    refine ⟨by simp; omega, fun g hg => ?_⟩
    rcases List.mem_append.1 hg with hg | hg
    · obtain ⟨a, b, c⟩ := h2 g hg; exact ⟨a, b, by omega⟩
    · rw [List.mem_singleton.1 hg]; exact ⟨by simp, by simpa [rd_L3] using hr, by simp⟩
  · rw [e]
    refine ⟨by simp; omega, fun g hg => ?_⟩
    rcases List.mem_or_eq_of_mem_set hg with hg | hg
    · obtain ⟨a, b, c⟩ := h2 g hg; exact ⟨a, b, by omega⟩
    · obtain ⟨a, b, c⟩ := h2 gs[j] (List.getElem_mem hj)
      rw [hg]
      refine ⟨by simp, ?_, by simp; omega⟩
      have : rd_L3 (gs[j] ++ [r]) 0 = rd_L3 gs[j] 0 := by
        unfold rd_L3
        rw [List.getD_eq_getElem?_getD, List.getD_eq_getElem?_getD, List.getElem?_append_left (by simpa using a)]
      rw [this]; exact b
theorem good_of (n : Int) : ∀ (l : List (List S39)), (∀ r ∈ l, n ≤ (r.length : Int)) → ∀ i, i ≤ l.length → good n i (groupsOf n.toNat (l.take i)) := by
  intro l hall i
  induction i with
  | zero => intro _; exact ⟨Nat.le_refl _, fun g hg => by simp [groupsOf] at hg⟩
  | succ i ih =>
    intro hi
    rw [List.take_succ_eq_append_getElem (by omega), groupsOf_snoc]
    exact good_put n i _ _ (ih (by omega)) (hall _ (List.getElem_mem _))
theorem GInv.slice {B : Nat} {W : World} {v : Value} {gs : List (List (List S39))} (h : GInv B W v gs) : ∃ A c, v = .slice A gs.length c := by
  obtain ⟨vs, h⟩ := h
  exact Kd.N_slice h.N

theorem own_in {B : Nat} {W : World} {v : Value} {gs : List (List (List S39))} {vs : List Value} (h : GI B W v gs vs) : ∀ k, v.ownBlock = some k → B ≤ k ∧ k < W.heap.size := fun k hk => ⟨own_base h.own k hk, own_lt h.own k hk⟩
/-- A new group, made of one row: what an append of it leaves. -/
theorem GInv.push1 {B : Nat} {wr w2 w28 : World} {v v28 : Value} {gs : List (List (List S39))} {g0 : List (List S39)} (hI : GInv B wr v gs) (hB : B ≤ wr.heap.size) (hbw : Below wr.heap.size wr w2)
    (hN : Kd.N (Kd.slice 39 k39) 32 w28 B (fun k => k < B ∨ k = w2.heap.size) v28 g0) (hg28 : w2.grownBy w28 none) (hat : ∃ b, v28.ownBlock = some b ∧ w2.heap.size ≤ b) :
    ∃ vs, w28.ownsRow B 30 1 v gs.length vs ∧ ∀ v1 w1, w1.ownsRow B 30 1 v1 (gs.length + 1) (vs ++ [v28]) → w28.grownBy w1 v.ownBlock → GInv B w1 v1 (gs ++ [g0]) := by
  obtain ⟨vs, h⟩ := hI
  have hbl : Below w2.heap.size w2 w28 := (Below.refl w2.heap.size w2).grown hg28 (Nat.le_refl _) (by simp)
  have h2 := h.below hbw
  have h28 := h2.below hbl
  obtain ⟨b, hb, hle⟩ := hat
  have hsz := hbw.size
  have hbe : b = w2.heap.size := by
    rcases hN.1 b hb with h | h
    · omega
    · exact h
  refine ⟨vs, h28.own, fun v1 w1 hown hg => ?_⟩
  have hv := own_in h2
  refine GI.push h28 (Kd.N_mono (Kd.N_grown hN hg (fun k hk e => ?_)) (fun k hk => ?_)) (by rw [hb]; simp) (fun j u hu e => ?_) hown hg
  · have := hv k e.symm
    rcases hk with hk | hk <;> omega
  · rcases hk with hk | hk
    · exact .inl hk
    · exact .inr (by rw [hb, hbe, hk])
  · have hjl : j < gs.length := by have := (List.getElem?_eq_some_iff.1 hu).1; rw [h.len] at this; exact this
    have := Kd.N_lt (h2.el j _ u (List.getElem?_eq_getElem hjl) hu).1 b (by rw [e, hb])
    omega
/-- A group's row, where it lies, and what storing a grown one back leaves. -/
theorem GInv.elem {B : Nat} {wr : World} {v : Value} {gs : List (List (List S39))} (hI : GInv B wr v gs) {j : Nat} (hj : j < gs.length) :
    ∃ g cap A c, v = .slice (some ⟨g, 0, none⟩) gs.length cap ∧ B ≤ g ∧ g < wr.heap.size ∧ wr.cell? ⟨g, j, none⟩ = some (.slice A gs[j].length c) ∧ Kd.N (Kd.slice 39 k39) 32 wr B (gok B (.slice A gs[j].length c)) (.slice A gs[j].length c) gs[j] ∧
      (∃ cells, wr.heap[g]? = some (.cells cells 30 (0, 0))) ∧ (Value.slice A gs[j].length c).ownBlock ≠ some g ∧
      ∀ (W W1 : World) (u1 : Value) (g1 : List (List S39)), Below wr.heap.size wr W → Kd.N (Kd.slice 39 k39) 32 W1 B (gok B u1) u1 g1 → u1.ownBlock ≠ none → W.grownBy W1 (Value.slice A gs[j].length c).ownBlock →
        (u1.ownBlock = (Value.slice A gs[j].length c).ownBlock ∨ ∃ b, u1.ownBlock = some b ∧ W.heap.size ≤ b) → GInv B (W1.setCell ⟨g, j, none⟩ u1) v (gs.set j g1) := by
  obtain ⟨vs, h⟩ := hI
  obtain ⟨g, cap, hv, hBg, hlt⟩ := h.own.form (by omega)
  subst hv
  have hjv : j < vs.length := by rw [h.len]; exact hj
  have hu : vs[j]? = some vs[j] := List.getElem?_eq_getElem hjv
  have hgj : gs[j]? = some gs[j] := List.getElem?_eq_getElem hj
  have hel := h.el j _ _ hgj hu
  obtain ⟨A, c, hs⟩ := Kd.N_slice hel.1
  rw [hs] at hel hu
  have hcell : wr.cell? ⟨g, j, none⟩ = some (.slice A gs[j].length c) := by
    have := h.own.cells (g := g) rfl j _ hu
    rwa [show (⟨g, 0, none⟩ : Addr).add j = ⟨g, j, none⟩ by unfold Addr.add; split <;> simp_all] at this
  obtain ⟨cells, hc⟩ := own_typed h.own g (by simp [Value.ownBlock])
  refine ⟨g, cap, A, c, rfl, hBg, hlt, hcell, hel.1, ⟨cells, hc⟩, ?_, fun W W1 u1 g1 hb hN hne hg hat => ?_⟩
  · have := h.ty hgj hu
    simpa [Value.ownBlock] using this
  · exact (h.below hb).put hj hu hN hne hg hat
theorem info30 : (Try.prog.info? 30).map (fun i => (i.zero, i.size, i.bytes)) = some (some (.slice none 0 0), 1, 24) := by kernel_rfl
/-- A row put behind a group: its own row, what it leads to of before. -/
theorem grow_step {ops : Array Oper} {o : Oper} {a : Act} {Q : Exit → Act → World → Prop} {Kc : Act → World → Prop} {w0 W : World} {B : Nat} (hw : Region.wanted o (yielded ops a.tmps) = true) (s x : Operand)
    (ho : o.op = .call { callee := .builtin .append, args := #[s, x], argTypes := #[30, 30] })
    (v : Value) (xs : List (List S39)) (p : List S39) (cs : List Value) (hs : a.eval s = v) (hx : a.eval x = .slice (some ⟨W.heap.size, 0, none⟩) 1 1) (hp : Kd.FK (Kd.slice 39 k39) W (fun k => k < B) p cs)
    (HO : Kd.N (Kd.slice 39 k39) 32 W B (gok B v) v xs) (HB : Below B w0 W) (hbase : B ≤ W.heap.size) (hl : (xs.length + 1) * 24 ≤ 140737488355328)
    (h : ∀ v1 w1, Kd.N (Kd.slice 39 k39) 32 w1 B (gok B v1) v1 (xs ++ [p]) → v1.ownBlock ≠ none → Below B w0 w1 → W.grownBy w1 v.ownBlock → (v1.ownBlock = v.ownBlock ∨ ∃ b, v1.ownBlock = some b ∧ W.heap.size ≤ b) → Kc (a.put o.dst v1) w1) :
    if Region.wanted o (yielded ops a.tmps) = true then Oper.wp Try.prog o a (W.alloc (.cells cs.toArray 32)) Kc Q else Kc (a.put o.dst undef) (W.alloc (.cells cs.toArray 32)) := by
  have hbase0 := Kd.N_base HO
  obtain ⟨h0, rows, hlr, hR, hf⟩ := HO
  refine Kd.R_append_step (Kd.raw 1) (w0 := w0) B hw s x 30 32 (.slice none 0 0) 24 ho Try.underlying30 info32 rfl (by decide) (by omega) v rows cs cs (fun _ => True) (fun _ => False) hs hx (Kd.FK_raw hp) (fun _ hk => hk.elim) (fun _ _ => trivial) (Kd.raw_any hR) HB hbase (by rw [hlr]; exact hl) ?_
  intro v1 w1 hr hb hg hat
  refine h v1 w1 ⟨fun k hk => .inr hk.symm, rows ++ [cs], by simp [hlr], Kd.raw_tight hr, fun j y c hy hc => ?_⟩ ?_ hb hg hat
  · have hst : ∀ {y : List S39} {c : List Value}, Kd.FK (Kd.slice 39 k39) W (fun k => k < B) y c → Kd.FK (Kd.slice 39 k39) w1 (fun k => gok B v1 k ∧ some k ≠ v1.ownBlock) y c := fun h1 =>
      Kd.FK_mono (Kd.FK_step h1 (fun k hk hlt => hg.block k hlt (fun e => by have := hbase0 k e.symm; omega))) (fun k hk => ⟨.inl hk, fun e => by have := Kd.R_base hr k e.symm; omega⟩)
    rcases Nat.lt_or_ge j xs.length with hj | hj
    · rw [List.getElem?_append_left hj] at hy
      rw [List.getElem?_append_left (by omega)] at hc
      exact hst (Kd.FK_mono (hf j y c hy hc) (fun k hk => by
        rcases hk.1 with h1 | h1
        · exact h1
        · exact absurd h1 hk.2))
    · have hjl := (List.getElem?_eq_some_iff.1 hy).1
      rw [List.length_append, List.length_singleton] at hjl
      obtain rfl : j = xs.length := by omega
      rw [List.getElem?_append_right (Nat.le_refl _), Nat.sub_self] at hy
      rw [List.getElem?_append_right (by omega), hlr, Nat.sub_self] at hc
      simp only [List.getElem?_cons_zero, Option.some.injEq] at hy hc
      subst hy hc
      exact hst hp
  · intro he
    obtain ⟨g, cap, hv, _⟩ := Kd.R_form hr (by simp)
    rw [hv] at he
    simp [Value.ownBlock] at he
theorem cell_alloc_ {W : World} {p : Addr} {v : Value} (h : W.cell? p = some v) (o : Obj) : (W.alloc o).cell? p = some v := (World.cell?_alloc_lt W o p (World.block_lt_of_cell? W p h)).trans h
set_option maxHeartbeats 8000000 in
set_option maxRecDepth 100000 in
theorem groups_calls (A0 : Option Addr) (c0 : Nat) (l0 : List (List S39)) (n : Int) (hn : 0 ≤ n) (hall : ∀ r ∈ l0, n ≤ (r.length : Int)) (hl : l0.length ≤ 1000000) (w : World)
    (hr0 : Kd.C (Kd.slice 39 k39) w A0 l0.length l0) (hc0 : l0.length ≤ c0) :
    Calls Try.prog 21 #[.slice A0 l0.length c0, .int .i64 n] w fun e w' =>
      ∃ v, e = .returned v ∧ Kd.N (Kd.slice 32 (Kd.slice 39 k39)) 30 w' w.heap.size (fun _ => True) v (if n = 0 then [l0] else groupsOf n.toNat l0) ∧ Below w.heap.size w w' := by
  have HR0 := Aside0.mk hr0
  have Hc0 := Aside0.mk hc0
  have Hl := Aside0.mk hl
  have HALL := Aside0.mk hall
  have HG := Aside0.mk (good_of n l0 hall)
  have HF0 : Aside0 (Kd.F (Kd.slice 39 k39) w (fun k => k < w.heap.size) A0 l0.length l0) := ⟨Kd.C_F (Kd.heap_slice 39 k39_heap) hr0⟩
  clear hr0 hc0 hall
  by_cases h0 : n = 0
  · subst h0
    rw [if_pos rfl]
    have HB1 := Aside0.mk (below_alloc (Below.refl w.heap.size w) (.cells #[.int .i64 0] 3))
    have HP : Aside0 (Kd.FK (Kd.slice 32 (Kd.slice 39 k39)) (w.alloc (.cells #[.int .i64 0] 3)) (fun _ => True) l0 [.slice A0 l0.length c0]) :=
      ⟨Kd.FK_slice_mk Hc0.out (Kd.F_mono (Kd.F_alloc HF0.out _) (fun _ _ => trivial))⟩
    clear hn hl HG HALL
    go_enter Try.func21, Try.ntmps21
    go_upto_region 3 with (fail)
    generalize w.alloc (.cells #[.int .i64 0] 3) = W0 at *
    go_wp2_with (((with_reducible refine gate_builtin (b := .append) (xs := #[.tmp 11, .tmp 13]) rfl ?_); at_builtin; go_loud (refine Kd.N_append (Kd.slice 32 (Kd.slice 39 k39)) (w0 := w) w.heap.size rfl (.tmp 11) (.tmp 13) 56 30 (.slice none 0 0) 24 rfl Try.underlying56 info30 rfl (by decide) (by omega) (.slice none 0 0) [] l0 [.slice A0 l0.length c0] (fun _ => True) (fun _ => True) rfl rfl HP.out (fun k _ => ⟨trivial, by simp [Value.ownBlock]⟩) (fun _ _ => trivial) (Kd.N_nil _ _ _ _ _) HB1.out (below_size HB1.out) (by simp) ?_); intro v7 w7 ho7 hb7 hg7 hat7; rw [List.nil_append] at ho7; have HO7 := Aside0.mk ho7; have HB7 := Aside0.mk hb7; clear ho7 hb7 hg7 hat7))
    go_ret
    exact ⟨_, rfl, HO7.out, HB7.out⟩
  · rw [if_neg h0]
    have hn1 : (n == 0) = false := by simpa using h0
    have HB0 := Aside0.mk (below_alloc (Below.refl w.heap.size w) (.cells #[.int .i64 n] 3))
    have HBX : Aside0 ((w.alloc (.cells #[.int .i64 n] 3)).heap[w.heap.size]? = some (.cells #[.int .i64 n] 3 (0, 0))) := ⟨blk_new w _⟩
    have Hn := Aside0.mk hn
    clear h0 hl
    go_enter Try.func21, Try.ntmps21
    go_wp2
    generalize w.alloc (.cells #[.int .i64 n] 3) = W0 at *
    have HRW := Aside0.mk (Kd.C_below HR0.out HB0.out)
    have HB := Aside0.mk (Below.refl W0.heap.size W0)
    have HI0 : Aside0 (GInv W0.heap.size W0 (.slice none 0 0) (groupsOf n.toNat (l0.take 0))) := ⟨GInv.nil _ _⟩
    go_loopw [5, 17] (fun v5 v17 wr => ∃ i : Nat, v17 = .int .i64 i ∧ i ≤ l0.length ∧ Aside0 (GInv W0.heap.size wr v5 (groupsOf n.toNat (l0.take i))) ∧ Aside0 (Below W0.heap.size W0 wr)) (fun _ v17 _ => l0.length - (intOf v17).toNat)
    case atStart => exact ⟨0, rfl, Nat.zero_le _, HI0, HB⟩
    case round =>
      clear HI0 HB
      obtain ⟨i, rfl, hi, HI, HB⟩ := hrel
      by_cases hlt : i < l0.length
      · have hrd := rdL3 l0 i hlt
        have hgood := HG.out i hi
        have hnr := HALL.out l0[i] (List.getElem_mem hlt)
        have hsn := groupsOf_snoc n.toNat (l0.take i) l0[i]
        rw [← List.take_succ_eq_append_getElem hlt] at hsn
        obtain ⟨ad, A1, c1, e0, hx0, hc1, hC1⟩ := at_L3 HRW.out (i : Int) (by omega) (by omega)
        rw [Int.toNat_natCast] at hx0
        replace hx0 := (HB.out.cell (World.block_lt_of_cell? W0 _ hx0)).trans hx0
        rw [hrd] at hx0 hc1 hC1
        generalize l0[i] = r at *
        generalize groupsOf n.toNat (l0.take i) = gs at *
        have hC1w := Kd.C_below hC1 HB.out
        have hF1 := Kd.F_below (Kd.C_F k39_heap hC1) HB.out
        obtain ⟨Av, cv, ev⟩ := HI.out.slice
        subst ev
        subst e0
        have hib : i ≤ 1000000 := by have := Hl.out; omega
        have p1 : (0 ≤ (i : Int)) = True := eq_true (by omega)
        have q1 : ((i : Int) < (l0.length : Int)) = True := eq_true (by omega)
        have q2 : decide ((i : Int) < (l0.length : Int)) = true := decide_eq_true (by omega)
        have q3 : decide (i < l0.length) = true := decide_eq_true hlt
        have HCALL : Aside0 (∀ W', Below wr.heap.size wr W' → W'.cell? ⟨wr.heap.size, 0, none⟩ = some (.slice A1 r.length c1) → Calls Try.prog 29 #[.slice Av gs.length cv, .func (.func 30) #[] #[.pointer (some ⟨w.heap.size, 0, none⟩), .pointer (some ⟨wr.heap.size, 0, none⟩)]] W' fun e w' =>
            e = .returned (.int .i64 (firstAt (like n.toNat r) gs 0)) ∧ Drawn0 W' w') := ⟨by
          intro W' hbW hcr
          obtain ⟨vs, hGI⟩ := HI.out.below hbW
          have hbn : W'.cell? ⟨w.heap.size, 0, none⟩ = some (.int .i64 n) := (blk_cell (blk_below (blk_below HBX.out HB.out) hbW) 0).trans rfl
          exact idx2_calls Av cv gs A1 c1 r n w.heap.size wr.heap.size W' (Kd.N_reads' hGI.N).2.2 (fun g hg => ⟨(hgood.2 g hg).1, (hgood.2 g hg).2.1⟩) Hn.out hnr hbn hcr (Kd.C_below hC1w hbW) hc1⟩
        have Hgood := Aside0.mk hgood
        have Hsn := Aside0.mk hsn
        have Hc1 := Aside0.mk hc1
        have HF1 := Aside0.mk hF1
        have Hlt := Aside0.mk hlt
        have HPA := Aside0.mk (put_at n.toNat r gs 0 (by omega))
        clear hgood hsn hnr hC1 hC1w hc1 hF1 hrd hlt
        rcases HPA.out with ⟨hf, hp⟩ | ⟨j, hj, hf, hp⟩
        · rw [hf] at HCALL
          have Hp := Aside0.mk hp
          clear hf hp HPA
          have Htok : Aside0 True := ⟨trivial⟩
          go_wp2_with (first
            | (go_at_call 29; refine (HCALL.out _ (below_alloc (Below.refl _ _) _) (by simp)).mono ?_; rintro e w2 ⟨rfl, hd⟩; have hb2 := (below_alloc (Below.refl wr.heap.size wr) (.cells #[.slice A1 r.length c1] 32)).trans (hd.below.mono (by simp)); have hx2 : w2.cell? ⟨wr.heap.size, 0, none⟩ = some (.slice A1 r.length c1) := (blk_cell (blk_below (blk_new wr (.cells #[.slice A1 r.length c1] 32)) (hd.below)) 0).trans rfl; have HX2 := Aside0.mk hx2; have HB2 := Aside0.mk hb2; clear hd hb2)
            | ((with_reducible refine gate_dst (N := 28) rfl ?_); go_loud (refine Kd.N_lit (Kd.slice 39 k39) (w0 := W0) W0.heap.size 32 rfl (N' := 28) rfl (xs := [r]) (inner := [.slice A1 r.length c1]) (ok := fun k => k < W0.heap.size ∨ k = w2.heap.size) (okp := fun k => k < W0.heap.size) ?hr (Reps.one (Kd.FK_slice_mk Hc1.out (Kd.F_below HF1.out HB2.out)) (Reps.none _ _)) (fun _ hk => .inl hk) (.inr rfl) (below_step HB.out HB2.out) (Nat.le_trans (below_size HB.out) HB2.out.size) (by simp) ?_); (case hr => first | (go_simp; done) | (go_simp; rfl)); intro v28 w28 ho28 hb28 hg28 hat28; have HB28 := Aside0.mk hb28; have HG28 := Aside0.mk hg28; obtain ⟨A28, c28, e28⟩ := Kd.N_slice ho28; rw [List.length_singleton] at e28; subst e28; have HO28 := Aside0.mk ho28; have HAT28 := Aside0.mk hat28; clear ho28 hb28 hg28 hat28)
            | ((with_reducible refine gate_builtin (b := .append) (xs := #[.tmp 26, .tmp 29]) rfl ?_); at_builtin; obtain ⟨vs, hown, hpush⟩ := GInv.push1 HI.out (below_size HB.out) HB2.out HO28.out HG28.out HAT28.out; have HPU := Aside0.mk hpush; clear hpush; go_loud (refine print_append_cells (w0 := W0) W0.heap.size rfl (.tmp 26) (.tmp 29) 56 30 (.slice none 0 0) 1 24 rfl Try.underlying56 info30 rfl (by decide) (by omega) (.slice Av gs.length cv) gs.length vs [.slice A28 1 c28] rfl rfl rfl ?h1 hown HB28.out (below_size HB28.out) ?hl ?_); (case h1 => exact (fun u hu => by rw [List.mem_singleton.1 hu]; exact (Kd.N_val HO28.out).2)); (case hl => have := Hgood.out.1; have := Hl.out; omega); intro v30 w30 hown30 hb30 hg30 hat30; have hI30 := HPU.out v30 w30 hown30 hg30; rw [← Hp.out, ← Hsn.out] at hI30; have HI30 := Aside0.mk hI30; have HB30 := Aside0.mk hb30; clear hown30 hb30 hg30 hat30 hI30 hown))
          go_roundw
          case rel => exact ⟨i + 1, by go_num, by have := Hlt.out; omega, HI30, HB30⟩
          case measure => have := Hlt.out; simp [intOf]; omega
        · rw [hf, Int.zero_add] at HCALL
          have Hp := Aside0.mk hp
          clear hf hp HPA
          obtain ⟨g, cap, A, c, hv, hBg, hgl, hcell, hNj, ⟨cells, hcells⟩, hneg, hput⟩ := HI.out.elem hj
          injection hv with hA hnn hcc
          subst hA hcc
          have hlj := (Hgood.out.2 gs[j] (List.getElem_mem hj)).2.2
          obtain ⟨gj, hgj⟩ : ∃ gj, gj = gs[j] := ⟨_, rfl⟩
          rw [← hgj] at hcell hNj hneg hput hlj
          have HPUT : Aside0 (∀ (W W1 : World) (u1 : Value) (g1 : List (List S39)), Below wr.heap.size wr W → Kd.N (Kd.slice 39 k39) 32 W1 W0.heap.size (gok W0.heap.size u1) u1 g1 → u1.ownBlock ≠ none → W.grownBy W1 (Value.slice A gj.length c).ownBlock →
              (u1.ownBlock = (Value.slice A gj.length c).ownBlock ∨ ∃ b, u1.ownBlock = some b ∧ W.heap.size ≤ b) → GInv W0.heap.size (W1.setCell ⟨g, j, none⟩ u1) (.slice (some ⟨g, 0, none⟩) gs.length cv) (gs.set j g1)) := ⟨hput⟩
          have Hp2 : Aside0 (putRow n.toNat r gs = gs.set j (gj ++ [r])) := ⟨by rw [hgj]; exact Hp.out⟩
          have HCL := Aside0.mk hcell
          have HNJ := Aside0.mk hNj
          have HLJ : Aside0 (gj.length ≤ 1000000) := ⟨by have := Hl.out; omega⟩
          have HGL := Aside0.mk hgl
          have HBG := Aside0.mk hBg
          have HCS := Aside0.mk hcells
          have HNEG := Aside0.mk hneg
          have Hj := Aside0.mk hj
          have qj : decide ((j : Int) < 0) = false := decide_eq_false (by omega)
          clear hput hcell hNj hlj hgj Hp hcells hneg hnn
          have r1 : (0 ≤ (j : Int)) = True := eq_true (by omega)
          have r2 : ((j : Int) < (gs.length : Int)) = True := eq_true (by omega)
          have r3 : (j < gs.length) = True := eq_true hj
          clear hj hBg hgl
          go_wp2_with (first
            | (go_at_call 29; refine (HCALL.out _ (below_alloc (Below.refl _ _) _) (by simp)).mono ?_; rintro e w2 ⟨rfl, hd⟩; have hb2 := (below_alloc (Below.refl wr.heap.size wr) (.cells #[.slice A1 r.length c1] 32)).trans (hd.below.mono (by simp)); have hx2 : w2.cell? ⟨wr.heap.size, 0, none⟩ = some (.slice A1 r.length c1) := (blk_cell (blk_below (blk_new wr (.cells #[.slice A1 r.length c1] 32)) (hd.below)) 0).trans rfl; have HX2 := Aside0.mk hx2; have HB2 := Aside0.mk hb2; clear hd hb2))
          have HX3 : Aside0 (w2.drew.cell? ⟨g, j, none⟩ = some (.slice A gj.length c) ∧ w2.drew.cell? ⟨wr.heap.size, 0, none⟩ = some (.slice A1 r.length c1)) := ⟨(HB2.out.cell (World.block_lt_of_cell? wr _ HCL.out)).trans HCL.out, HX2.out⟩
          have HBW3 := Aside0.mk (below_drew HB2.out)
          have HB3 := Aside0.mk (below_step HB.out HBW3.out)
          have HN3 := Aside0.mk (Kd.N_below HNJ.out HBW3.out)
          have HF3 := Aside0.mk (Kd.F_below HF1.out HBW3.out)
          have HCS3 := Aside0.mk (blk_below HCS.out HBW3.out)
          have HGL3 : Aside0 (g < w2.drew.heap.size) := ⟨Nat.lt_of_lt_of_le HGL.out HBW3.out.size⟩
          clear HB2 HX2 HCL HNJ HF1 HCS HGL
          obtain ⟨w3, hw3⟩ : ∃ w3, w2.drew = w3 := ⟨_, rfl⟩
          rw [hw3] at HX3 HBW3 HB3 HN3 HF3 HCS3 HGL3
          have HST : Aside0 (∀ w4, w3.grownBy w4 (Value.slice A gj.length c).ownBlock → w4.cell? ⟨g, j, none⟩ = some (.slice A gj.length c) ∧ w4.frozen? ⟨g, j, none⟩ = false) := ⟨fun w4 hg => by
            have hb := hg.block g HGL3.out (fun e => HNEG.out e.symm)
            exact ⟨(World.cell?_of_block (a := ⟨g, j, none⟩) hb).trans HX3.out.1, (World.frozen?_of_block (a := ⟨g, j, none⟩) hb).trans (blk_frozen HCS3.out j)⟩⟩
          have Hw3 := Aside0.mk hw3
          refine start_ (n := 11) (S := fun w' => w'.cell? ⟨g, j, none⟩ = some (.slice A gj.length c) ∧ w'.cell? ⟨wr.heap.size, 0, none⟩ = some (.slice A1 r.length c1)) (ds := [8, 10]) #[false, false, false, false, false, false, false, false, false, false, false] (by kernel_rfl) rfl rfl (by rw [Hw3.out]; exact HX3.out) (fun hHeld => ?_)
          rw [hw3] at hHeld ⊢
          clear hw3 Hw3
          refine pure_ (i := 0) (N := some 31) (v := ?_) (a' := ?_) #[true, false, false, false, false, false, false, false, false, false, false] rfl rfl (by kernel_rfl) (fun _ _ _ h => h) (Or.inl ⟨by rfl, ?_⟩) ?_ ?_
          rotate_left
          · intro w'
            go_simp
            with_reducible rfl
          rotate_left
          · simp only [Act.put, List.setIfInBounds_toArray, List.set_cons_zero, List.set_cons_succ]
            rfl
          refine pure_ (i := 1) (N := some 32) (v := ?_) (a' := ?_) #[true, true, false, false, false, false, false, false, false, false, false] rfl rfl (by kernel_rfl) (fun _ _ _ h => h) (Or.inl ⟨by rfl, ?_⟩) ?_ ?_
          rotate_left
          · intro w'
            go_simp
            with_reducible rfl
          rotate_left
          · simp only [Act.put, List.setIfInBounds_toArray, List.set_cons_zero, List.set_cons_succ]
            rfl
          refine pure_ (i := 2) (N := some 33) (v := ?_) (a' := ?_) #[true, true, true, false, false, false, false, false, false, false, false] rfl rfl (by kernel_rfl) (fun _ _ _ h => h) (Or.inl ⟨by rfl, ?_⟩) ?_ ?_
          rotate_left
          · intro w'
            go_simp
            with_reducible rfl
          rotate_left
          · simp only [Act.put, List.setIfInBounds_toArray, List.set_cons_zero, List.set_cons_succ]
            rfl
          refine pure_ (i := 3) (N := some 34) (v := ?_) (a' := ?_) #[true, true, true, true, false, false, false, false, false, false, false] rfl rfl (by kernel_rfl) (fun _ _ _ h => h) (Or.inl ⟨by rfl, ?_⟩) ?_ ?_
          rotate_left
          · intro w'
            go_simp
            with_reducible rfl
          rotate_left
          · simp only [Act.put, List.setIfInBounds_toArray, List.set_cons_zero, List.set_cons_succ]
            rfl
          refine pure_ (i := 4) (N := some 35) (v := ?_) (a' := ?_) #[true, true, true, true, true, false, false, false, false, false, false] rfl rfl (by kernel_rfl) (fun _ _ _ h => h) (Or.inl ⟨by rfl, ?_⟩) ?_ ?_
          rotate_left
          · intro w'
            go_simp
            with_reducible rfl
          rotate_left
          · simp only [Act.put, List.setIfInBounds_toArray, List.set_cons_zero, List.set_cons_succ]
            rfl
          refine take_ (i := 5) (N := some 36) (v := ?_) (a' := ?_) #[true, true, true, true, true, true, false, false, false, false, false] rfl rfl (by kernel_rfl) (fun _ _ _ h => h) (Or.inl ⟨by rfl, ?_⟩) hHeld ?_ ?_
          rotate_left
          · rintro w' ⟨s0, s1⟩
            go_simp
            with_reducible rfl
          rotate_left
          · simp only [Act.put, List.setIfInBounds_toArray, List.set_cons_zero, List.set_cons_succ]
            rfl
          refine take_ (i := 6) (N := some 37) (v := ?_) (a' := ?_) #[true, true, true, true, true, true, true, false, false, false, false] rfl rfl (by kernel_rfl) (fun _ _ _ h => h) (Or.inl ⟨by rfl, ?_⟩) hHeld ?_ ?_
          rotate_left
          · rintro w' ⟨s0, s1⟩
            go_simp
            with_reducible rfl
          rotate_left
          · simp only [Act.put, List.setIfInBounds_toArray, List.set_cons_zero, List.set_cons_succ]
            rfl
          refine one_ (i := 7) (N := some 38) #[true, true, true, true, true, true, true, true, false, false, false] rfl rfl (by kernel_rfl) (by decide) (fun K hK => ?_)
          refine value_ (v := .slice (some ⟨w3.heap.size, 0, none⟩) 1 1) (w1 := w3.alloc (.cells #[.slice A1 r.length c1] 32)) (by rfl) rfl (by first | (go_simp; done) | (go_simp; rfl)) ?_
          refine hK.out _ _ ⟨(cell_alloc_ HX3.out.1 _), (cell_alloc_ HX3.out.2 _)⟩ (fun hHeld => ?_)
          clear hK K
          refine norm_ (a' := ?_) ?_ ?_
          rotate_left
          · show Act.put _ (some 38) _ = _
            simp only [Act.put, List.setIfInBounds_toArray, List.set_cons_zero, List.set_cons_succ]
            rfl
          refine last_ (i := 8) (N := some 39) #[true, true, true, true, true, true, true, true, true, false, false] rfl rfl (by kernel_rfl) (by decide) (fun K hK => ?_)
          refine grow_step (w0 := W0) (B := W0.heap.size) (by rfl) (.tmp 36) (.tmp 38) rfl (.slice A gj.length c) gj r [.slice A1 r.length c1] rfl rfl (Kd.FK_slice_mk Hc1.out HF3.out) HN3.out HB3.out (below_size HB3.out) ?hl ?_
          case hl => have := HLJ.out; omega
          intro v39 w4 ho4 hn4 hb4 hg4 hat4
          have HNE4 := Aside0.mk hn4
          clear hn4
          have HO4 := Aside0.mk ho4
          have HB4 := Aside0.mk hb4
          have HG4 := Aside0.mk hg4
          have HAT4 := Aside0.mk hat4
          clear ho4 hb4 hg4 hat4
          obtain ⟨A4, c4, e4⟩ := Kd.N_slice HO4.out
          rw [List.length_append, List.length_singleton] at e4
          subst e4
          refine hK.out _ _ ?_
          clear hK K
          refine norm_ (a' := ?_) ?_ ?_
          rotate_left
          · show Act.put _ (some 39) _ = _
            simp only [Act.put, List.setIfInBounds_toArray, List.set_cons_zero, List.set_cons_succ]
            rfl
          refine pure_ (i := 9) (N := some 40) (v := ?_) (a' := ?_) #[true, true, true, true, true, true, true, true, true, true, false] rfl rfl (by kernel_rfl) (fun _ _ _ h => h) (Or.inl ⟨by rfl, ?_⟩) ?_ ?_
          rotate_left
          · intro w'
            go_simp
            with_reducible rfl
          rotate_left
          · simp only [Act.put, List.setIfInBounds_toArray, List.set_cons_zero, List.set_cons_succ]
            rfl
          refine last_ (i := 10) (N := none) #[true, true, true, true, true, true, true, true, true, true, true] rfl rfl (by kernel_rfl) (by decide) (fun K hK => ?_)
          obtain ⟨hx4, hf4⟩ := HST.out w4 HG4.out
          refine skip_ (w1 := w4.setCell ⟨g, j, none⟩ (.slice A4 (gj.length + 1) c4)) (by rfl) rfl (by first | (go_simp; done) | (go_simp; rfl)) ?_
          refine hK.out _ _ ?_
          clear hK K
          refine done_ (by kernel_rfl) ?_
          go_wp2
          have hG5 := HPUT.out w3 w4 (.slice A4 (gj.length + 1) c4) (gj ++ [r]) HBW3.out HO4.out HNE4.out HG4.out HAT4.out
          rw [← Hp2.out, ← Hsn.out] at hG5
          have HI5 := Aside0.mk hG5
          have HB5 : Aside0 (Below W0.heap.size W0 (w4.setCell ⟨g, j, none⟩ (.slice A4 (gj.length + 1) c4))) := ⟨below_set HB4.out HBG.out⟩
          clear hG5
          go_roundw
          case rel => exact ⟨i + 1, by go_num, by have := Hlt.out; omega, HI5, HB5⟩
          case measure => have := Hlt.out; simp [intOf]; omega
      · have q2 : decide ((i : Int) < (l0.length : Int)) = false := decide_eq_false (by omega)
        have q3 : decide (i < l0.length) = false := decide_eq_false hlt
        obtain ⟨vs, hGI⟩ := HI.out
        have hN := hGI.N
        rw [List.take_of_length_le (by omega)] at hN
        have HN := Aside0.mk (Kd.N_lower hN (below_size HB0.out))
        have HBB := Aside0.mk (HB0.out.trans (HB.out.mono (below_size HB0.out)))
        clear hGI hN hlt
        go_wp2
        go_ret
        exact ⟨_, rfl, HN.out, HBB.out⟩
end Go.Proofs.Ytedgfhijkkedaaa.PAgg
