/-
  Sorting, by hand: sorted.By, its walk.
-/
import Derived.Test.YthpoeljnmdjjiaaSvC
import Derived.Outline
namespace Go.Proofs.Ythpoeljnmdjjiaa.PSrn
open Go.RowKit Go.Proofs.Ythpoeljnmdjjiaa.Hand Go.Proofs.Ythpoeljnmdjjiaa.Srt Go.Proofs.YthpoeljnmdjjiaaW.PrintWords Go.Proofs.YthpoeljnmdjjiaaW.PrintLast Go.Proofs.YthpoeljnmdjjiaaW.PrintMore
set_option linter.unusedVariables false
set_option linter.unusedSimpArgs false

def shortRows (rows : List (List S28)) : Bool := rows.all (fun r => decide (r.length < 4398046511104))
def byF (rows : List (List S28)) (key : List Int) : Option (List (List S28)) :=
  if rows.length ≤ 100000 ∧ shortRows rows = true then some ((places (cfRow rows key) rows.length).map fun i => rows.getD i []) else none
theorem shortRows_at {rows : List (List S28)} (h : shortRows rows = true) (i : Nat) : (rows.getD i []).length < 4398046511104 := by
  rw [List.getD_eq_getElem?_getD]
  cases hr : rows[i]? with
  | none => simp
  | some r => simpa using List.all_eq_true.1 h r (List.mem_of_getElem? hr)
/-- What the sort asks of its comparison. -/
theorem cmp_ok {w w0 : World} {g : Nat} {rows : List (List S28)} {Hf : Nat → Hd} {key : List Int} {Ak : Option Addr} {ck bk : Nat} (hH : HdOf w rows Hf) (hw : Below w.heap.size w w0) (hg : w.heap.size ≤ g) (hk : Kd.C (Kd.int .i64) w Ak key.length key)
    (hb : bk < w0.heap.size) (hbg : bk ≠ g) (hx : w0.cell? ⟨bk, 0, none⟩ = some (.slice Ak key.length ck)) : CmpOK w0 g Hf 44 #[.pointer (some ⟨bk, 0, none⟩)] (cfRow rows key) := by
  intro i j W h1 h2
  have hW : Below w.heap.size w W := hw.trans (h1.mono hg)
  have := hH.below hW
  rw [this.eq i, this.eq j]
  exact order1_calls _ _ _ _ _ _ _ ck key bk W (this.rd i) (this.cap i) (this.rd j) (this.cap j) (Kd.C_below hk hW) ((World.cell?_of_block (a := ⟨bk, 0, none⟩) (h2.2 bk hb hbg (by simp))).trans hx)

set_option maxHeartbeats 4000000 in
set_option maxRecDepth 100000 in
theorem by_calls (A0 : Option Addr) (c0 : Nat) (l0 : List (List S28)) (A1 : Option Addr) (c1 : Nat) (l1 : List Int) (r1 : List (List S28)) (w : World)
    (hr0 : Kd.C (Kd.slice 28 k28) w A0 l0.length l0) (hc0 : l0.length ≤ c0) (hr1 : Kd.C (Kd.int .i64) w A1 l1.length l1) (hc1 : l1.length ≤ c1) (h : byF l0 l1 = some r1) :
    Calls Try.prog 11 #[.slice A0 l0.length c0, .slice A1 l1.length c1] w fun e w' => ∃ v, e = .returned v ∧ Kd.S (Kd.slice 28 k28) 26 w' w.heap.size (fun _ => True) v r1 ∧ Below w.heap.size w w' := by
  unfold byF at h
  have hg : l0.length ≤ 100000 ∧ shortRows l0 = true := Decidable.byContradiction (fun hg => by rw [if_neg hg] at h; cases h)
  rw [if_pos hg] at h
  have hr := Option.some.inj h
  obtain ⟨hl, hsh⟩ := hg
  obtain ⟨Hf, hH, hC⟩ := rows_hd hr0
  have hlen : ((List.range l0.length).map fun i => [hdr (Hf i)]).length = l0.length := by simp
  have hclone := cloneL_calls A0 c0 ((List.range l0.length).map fun i => [hdr (Hf i)]) w (by rw [hlen]; exact hC) (by rw [hlen]; omega)
  rw [hlen] at hclone
  have HCL := Aside0.mk hclone
  have HH := Aside0.mk hH
  have HR1 := Aside0.mk hr1
  have HSH := Aside0.mk hsh
  have HRES := Aside0.mk hr
  clear h hr hr0 hr1 hC hH hlen hclone hsh hc0
  go_enter Try.func11, Try.ntmps11
  go_upto_region 2 with (go_at_call 25; refine HCL.out.mono ?_; rintro e w2 ⟨v, rfl, ho, hb⟩; have HO := Aside0.mk ho; have HB2 := Aside0.mk hb; clear ho hb)
  rcases clone_block HO.out with ⟨hn, A, c, rfl⟩ | ⟨hn, g, cap, T, rfl, hBg, hnc, hcm, hT, hblk⟩
  · have hres : r1 = [] := by rw [← HRES.out, hn]; rfl
    have hnil : l0 = [] := List.eq_nil_of_length_eq_zero hn
    subst hres
    have HB3 := Aside0.mk (HB2.out.trans ((below_alloc (Below.refl w2.heap.size w2) (.cells #[.slice A1 l1.length c1] 23)).mono HB2.out.size))
    have HSN : Aside0 (Kd.S (Kd.slice 28 k28) 26 (w2.alloc (.cells #[.slice A1 l1.length c1] 23)) w.heap.size (fun _ => True) (.slice A 0 c) []) := ⟨by
      have h1 := HO.out
      rw [hn] at h1
      have h2 := Kd.R_below h1 (below_alloc (Below.refl w2.heap.size w2) (.cells #[.slice A1 l1.length c1] 23))
      obtain ⟨_, inner, ho, _⟩ := h2
      have hi : inner = [] := List.eq_nil_of_length_eq_zero (by have := ho.1; simpa using this)
      subst hi
      exact ⟨fun _ => 0, fun _ _ => trivial, [], ho, Reps.none _ _⟩⟩
    clear hn hnil HRES HSH HH HCL HO
    go_wp2_with (first
      | (go_at_call 27; refine (order_calls A1 l1.length c1 w2).mono ?_; rintro e w3 ⟨rfl, rfl⟩)
      | (go_at_call 26; refine (sortStable_zero _ _ _ _).mono ?_; rintro e w4 ⟨rfl, rfl⟩))
    go_loopw [6, 7, 16] (fun _ _ v16 wr => v16 = .int .i64 0 ∧ Aside0 (wr = w2.alloc (.cells #[.slice A1 l1.length c1] 23))) (fun _ _ _ _ => 0)
    case atStart => exact ⟨rfl, ⟨rfl⟩⟩
    case round =>
      obtain ⟨rfl, HW⟩ := hrel
      go_wp2
      go_ret
      have e := HW.out
      subst e
      exact ⟨_, rfl, HSN.out, HB3.out⟩
  · have HO2 := Aside0.mk (order_calls A1 l1.length c1 w2)
    obtain ⟨w0, hw0⟩ : ∃ w0, w0 = w2.alloc (.cells #[.slice A1 l1.length c1] 23) := ⟨_, rfl⟩
    have hB20 : Below w2.heap.size w2 w0 := by rw [hw0]; exact below_alloc (Below.refl w2.heap.size w2) _
    have hBw0 : Below w.heap.size w w0 := HB2.out.trans (hB20.mono HB2.out.size)
    have hgl : g < w2.heap.size := blk_lt hblk
    have hbk : w0.heap[w2.heap.size]? = some (.cells #[.slice A1 l1.length c1] 23 (0, 0)) := by rw [hw0]; exact blk_new w2 _
    have hblk0 := blk_below hblk hB20
    have hcmp : CmpOK w0 g Hf 44 #[.pointer (some ⟨w2.heap.size, 0, none⟩)] (cfRow l0 l1) :=
      cmp_ok HH.out hBw0 hBg HR1.out (blk_lt hbk) (by omega) ((blk_cell hbk 0).trans rfl)
    have hSR : SR w0 g Hf (List.range l0.length) w0 := ⟨⟨(List.range l0.length).map (fun i => hdr (Hf i)), T, by simp, hblk0, hblk0⟩, Below.refl _ _, KeepBut.refl _ _ _⟩
    have hsort := sortStable_calls (cfRow_ok l0 l1) Hf w0 g cap 44 #[.pointer (some ⟨w2.heap.size, 0, none⟩)] (fun _ _ => rfl) hcmp l0.length hl (List.range l0.length) (by simp) List.pairwise_lt_range w0 hSR
    rw [hw0] at hsort
    have HSORT := Aside0.mk hsort
    have HW0 := Aside0.mk hw0
    have HBW0 := Aside0.mk hBw0
    have HBLK0 := Aside0.mk hblk0
    have HT := Aside0.mk hT
    have HBG := Aside0.mk hBg
    have HNC := Aside0.mk hnc
    have HCM := Aside0.mk hcm
    clear hsort hSR hcmp hblk hbk hB20 hBw0 hw0 hgl hblk0 hT hBg hnc hcm HO HCL
    go_upto_region 3 with (first
      | (go_at_call 27; refine HO2.out.mono ?_; rintro e w3 ⟨rfl, rfl⟩)
      | (go_at_call 26; refine HSORT.out.mono ?_; rintro e w4 ⟨rfl, Z, hs4, hp4, hsr4⟩; have HSZ := Aside0.mk hs4; have HPZ := Aside0.mk hp4; have HSR := Aside0.mk hsr4; clear hs4 hp4 hsr4 HSORT HO2))
    have hZ := places_unique (cfRow_ok l0 l1) HSZ.out HPZ.out
    have hZl : Z.length = l0.length := by rw [HPZ.out.length_eq]; simp
    have hB0 : Below w.heap.size w w4 := by
      have := HSR.out
      rw [← HW0.out] at this
      exact HBW0.out.trans (this.below.mono HBG.out)
    have HB0 := Aside0.mk hB0
    have hBI : BI w.heap.size g T Hf Z (fun i => l0.getD i []) 0 w4 := by
      have h1 := HSR.out
      rw [← HW0.out] at h1
      obtain ⟨L0, T2, e1, e2, e3⟩ := h1.blk
      have e4 := HBLK0.out
      rw [e2] at e4
      injection e4 with e4
      injection e4 with e4 _ _
      have e5 : L0 ++ T2 = (List.range l0.length).map (fun i => hdr (Hf i)) ++ T := List.toArray_inj e4
      have e6 := (List.append_inj e5 (by rw [e1, hZl]; simp)).2
      subst e6
      exact ⟨[], fun _ => 0, rfl, by rw [List.drop_zero, List.nil_append]; exact e3, fun j u h => by simp at h⟩
    have HBI := Aside0.mk hBI
    have HZL := Aside0.mk hZl
    have HROW : Aside0 (Z.map (fun i => l0.getD i []) = r1) := ⟨by rw [← HRES.out, ← hZ]⟩
    clear hB0 hBI hZ hZl HSR HSZ HPZ HW0 HBW0 HBLK0
    go_wp2
    go_loopw [6, 7, 16] (fun _ _ v16 wr => ∃ i : Nat, v16 = .int .i64 i ∧ i ≤ l0.length ∧ Aside0 (BI w.heap.size g T Hf Z (fun i => l0.getD i []) i wr) ∧ Aside0 (Below w.heap.size w wr)) (fun _ _ v16 _ => l0.length - (intOf v16).toNat)
    case atStart => exact ⟨0, rfl, Nat.zero_le _, HBI, HB0⟩
    case round =>
      clear HBI HB0
      obtain ⟨i, rfl, hi, HBI, HB⟩ := hrel
      by_cases hlt : i < l0.length
      · have q2 : decide ((i : Int) < (l0.length : Int)) = true := decide_eq_true (by omega)
        have q3 : decide (i < l0.length) = true := decide_eq_true hlt
        have p1 : (0 ≤ (i : Int)) = True := eq_true (by omega)
        have p2 : ((i : Int) < (l0.length : Int)) = True := eq_true (by omega)
        have p3 : (i < l0.length) = True := eq_true hlt
        have hiZ : i < Z.length := by rw [HZL.out]; exact hlt
        have hx := HBI.out.cell hiZ
        have hHW := HH.out.below HB.out
        rw [hHW.eq] at hx
        have hcl := clone_calls (Hf (Z.getD i 0)).1 (Hf (Z.getD i 0)).2.2 (l0.getD (Z.getD i 0) []) wr (hHW.rd _) (shortRows_at HSH.out _)
        have HST : Aside0 (∀ w5 v5, Below wr.heap.size wr w5 → Kd.R k28 28 w5 wr.heap.size (fun _ => True) v5 (l0.getD (Z.getD i 0) []) → w5.frozen? ⟨g, i, none⟩ = false ∧ (∃ u, w5.cell? ⟨g, i, none⟩ = some u) ∧ BI w.heap.size g T Hf Z (fun i => l0.getD i []) (i + 1) (w5.setCell ⟨g, i, none⟩ v5) ∧ Below w.heap.size w (w5.setCell ⟨g, i, none⟩ v5)) :=
          ⟨fun w5 v5 hb5 ho5 => ⟨(HBI.out.below hb5).frozen i, ⟨_, (HBI.out.below hb5).cell hiZ⟩, HBI.out.step hiZ hb5 HB.out.size ho5, below_put (HB.out.trans (hb5.mono HB.out.size)) (p := ⟨g, i, none⟩) HBG.out⟩⟩
        generalize l0.getD (Z.getD i 0) [] = row at hx hcl HST
        generalize (Hf (Z.getD i 0)).1 = ra at hx hcl
        generalize (Hf (Z.getD i 0)).2.2 = rc at hx hcl
        have HCLN := Aside0.mk hcl
        clear hcl hHW hiZ
        go_wp2_with (go_at_call 28; (with_reducible refine HCLN.out.mono ?_); rintro e w5 ⟨v5, rfl, ho5, hb5⟩; obtain ⟨Av, cv, ev⟩ := Kd.R_slice ho5; subst ev; obtain ⟨hf5, ⟨u5, hc5⟩, hbi5, hbb5⟩ := HST.out w5 _ hb5 ho5; have HBI2 := Aside0.mk hbi5; have HB5 := Aside0.mk hbb5; clear ho5 hb5 hbi5 hbb5 HBI HB HCLN HST hx)
        go_roundw
        case rel => exact ⟨i + 1, by first | rfl | go_num, by omega, HBI2, HB5⟩
        case measure => simp only [intOf]; omega
      · have q2 : decide ((i : Int) < (l0.length : Int)) = false := decide_eq_false (by omega)
        have q3 : decide (i < l0.length) = false := decide_eq_false hlt
        have HFIN := Aside0.mk (HBI.out.fin (cap := cap) (by rw [HZL.out]; omega) HBG.out (by rw [HZL.out]; exact HNC.out) HCM.out (by rw [HZL.out]; exact HT.out))
        rw [HZL.out, HROW.out] at HFIN
        go_wp2
        go_ret
        exact ⟨_, rfl, HFIN.out, HB.out⟩
end Go.Proofs.Ythpoeljnmdjjiaa.PSrn
