/-
  By hand: the examples at the head of chapter 8's statements.
-/
import Derived.Test.YtjchjdbfmiibhaaPRlax6
import Derived.Test.YtjchjdbfmiibhaaRlaA
namespace Go.Proofs.Ytjchjdbfmiibhaa.Pure
open Go.RowKit Go.Proofs.Ytjchjdbfmiibhaa.PRla Go.Proofs.YtjchjdbfmiibhaaW.PrintWords Go.Proofs.YtjchjdbfmiibhaaW.PrintLast Go.Proofs.YtjchjdbfmiibhaaW.PrintMore
open Go.Proofs.Ytjchjdbfmiibhaa.Hand

/-- A row of values just made. -/
theorem shown_row (W : World) (xs : List S32) (hl : xs.length ≤ 1000) :
    Kd.C k32 (W.alloc (.cells ((xs.flatMap fun v => [.int .i64 v.f0, .int .i64 v.f1, .string v.f2]).toArray) 32)) (some ⟨W.heap.size, 0, none⟩) xs.length xs := by
  have key : ∀ (xs : List S32) (j : Nat) (p : S32), xs[j]? = some p → ∀ i u, ([.int .i64 p.f0, .int .i64 p.f1, .string p.f2] : List Value)[i]? = some u → (xs.flatMap fun v => ([.int .i64 v.f0, .int .i64 v.f1, .string v.f2] : List Value))[j * 3 + i]? = some u := by
    intro xs
    induction xs with
    | nil => intro j p h; simp at h
    | cons v t ih =>
      intro j p h i u hu
      have hi : i < 3 := (List.getElem?_eq_some_iff.1 hu).1
      cases j with
      | zero =>
        simp at h
        subst h
        rw [List.flatMap_cons, Nat.zero_mul, Nat.zero_add, List.getElem?_append_left (by simpa using hi)]
        exact hu
      | succ j =>
        rw [List.flatMap_cons, List.getElem?_append_right (by simp; omega)]
        have := ih j p (by simpa using h) i u hu
        rw [← this]
        congr 1
        simp; omega
  refine ⟨rfl, by omega, fun _ => ⟨_, rfl, fun j p hj => ⟨[.int .i64 p.f0, .int .i64 p.f1, .string p.f2], rfl, k32_mk _ _, fun i u hu => ?_⟩⟩⟩
  have h := key xs j p hj i u hu
  rw [show (Addr.mk W.heap.size 0 none).add (j * k32.sz + i) = ⟨W.heap.size, j * 3 + i, none⟩ by simp [Addr.add, show k32.sz = 3 from rfl]; omega]
  rw [World.cell?_alloc_mark]
  simpa using h
theorem shown_rowA (W : World) (B : Nat) (hB : B = W.heap.size) : Kd.C k32 (W.alloc (.cells #[.int .i64 1, .int .i64 5, .string ⟨#[]⟩, .int .i64 1, .int .i64 5, .string ⟨#[]⟩, .int .i64 1, .int .i64 7, .string ⟨#[]⟩] 32)) (some ⟨B, 0, none⟩) 3 [⟨1, 5, ⟨#[]⟩⟩, ⟨1, 5, ⟨#[]⟩⟩, ⟨1, 7, ⟨#[]⟩⟩] :=
  hB ▸ shown_row W [⟨1, 5, ⟨#[]⟩⟩, ⟨1, 5, ⟨#[]⟩⟩, ⟨1, 7, ⟨#[]⟩⟩] (by decide)
theorem shown_rowB (W : World) (B : Nat) (hB : B = W.heap.size) : Kd.C k32 (W.alloc (.cells #[.int .i64 1, .int .i64 5, .string ⟨#[]⟩, .int .i64 1, .int .i64 5, .string ⟨#[]⟩] 32)) (some ⟨B, 0, none⟩) 2 [⟨1, 5, ⟨#[]⟩⟩, ⟨1, 5, ⟨#[]⟩⟩] :=
  hB ▸ shown_row W [⟨1, 5, ⟨#[]⟩⟩, ⟨1, 5, ⟨#[]⟩⟩] (by decide)
theorem shown_runs : rle_Runs.f 10 [⟨1, 5, ⟨#[]⟩⟩, ⟨1, 5, ⟨#[]⟩⟩, ⟨1, 7, ⟨#[]⟩⟩] = some [⟨2, ⟨1, 5, ⟨#[]⟩⟩⟩, ⟨1, ⟨1, 7, ⟨#[]⟩⟩⟩] := by
  rw [runs_f _ (by decide) 10 (by decide)]
  have e : runs [] [⟨1, 5, ⟨#[]⟩⟩, ⟨1, 5, ⟨#[]⟩⟩, ⟨1, 7, ⟨#[]⟩⟩] = [⟨2, ⟨1, 5, ⟨#[]⟩⟩⟩, ⟨1, ⟨1, 7, ⟨#[]⟩⟩⟩] := by
    simp [runs, step]
  rw [e]
theorem shown_bytes : rle_Bytes.f 5000 [⟨1, 5, ⟨#[]⟩⟩, ⟨1, 5, ⟨#[]⟩⟩] 1 = some ([2, 10], 0) := by
  have hw : ∀ v ∈ ([⟨1, 5, ⟨#[]⟩⟩, ⟨1, 5, ⟨#[]⟩⟩] : List S32), Wf v := by
    intro v hv
    simp only [List.mem_cons, List.not_mem_nil, or_false] at hv
    rcases hv with rfl | rfl <;> exact ⟨by decide, by decide⟩
  have hm : mayOf ⟨1, 5, ⟨#[]⟩⟩ = true := by
    have h := may_of ⟨1, 5, ⟨#[]⟩⟩
    unfold val_May.f at h
    rw [if_neg (by decide), if_pos rfl, empty_bool] at h
    exact (Option.some.inj h).symm
  have hc : chk [⟨1, 5, ⟨#[]⟩⟩, ⟨1, 5, ⟨#[]⟩⟩] 1 = 0 := by
    refine chk_zero (by decide) (by decide) (by decide) ?_ ?_
    · intro v hv
      simp only [List.mem_cons, List.not_mem_nil, or_false] at hv
      rcases hv with rfl | rfl <;> rfl
    · intro v hv
      simp only [List.mem_cons, List.not_mem_nil, or_false] at hv
      rcases hv with rfl | rfl <;> exact hm
  rw [rbytes_f _ 1 hw 5000 (by decide), if_pos hc]
  have e : runs [] [⟨1, 5, ⟨#[]⟩⟩, ⟨1, 5, ⟨#[]⟩⟩] = [⟨2, ⟨1, 5, ⟨#[]⟩⟩⟩] := by simp [runs, step]
  rw [e]
  have e2 : ([⟨2, ⟨1, 5, ⟨#[]⟩⟩⟩] : List S49).flatMap rby = [2, 10] := by
    simp only [List.flatMap_cons, List.flatMap_nil, List.append_nil, rby, vby]
    decide +kernel
  rw [e2]
set_option maxHeartbeats 1000000 in
set_option maxRecDepth 100000 in
theorem shown_calls (w : World) : Calls Try.prog 23 #[] w fun e w' => e = .returned (.bool true) ∧ Below w.heap.size w w' := by
  have hu32 := Try.underlying32
  go_enter Try.func23, Try.ntmps23
  go_wp2_with fail
  refine (rle_Runs.calls 10 _ _ [⟨1, 5, ⟨#[]⟩⟩, ⟨1, 5, ⟨#[]⟩⟩, ⟨1, 7, ⟨#[]⟩⟩] [⟨2, ⟨1, 5, ⟨#[]⟩⟩⟩, ⟨1, ⟨1, 7, ⟨#[]⟩⟩⟩] _ (shown_rowA _ _ (by simp)) (by decide) shown_runs).mono ?_
  rintro e w2 ⟨v1, rfl, hR, hB⟩
  have hB0 : Below w.heap.size w w2 := Below.trans (by repeat (first | exact Below.refl _ _ | refine Below.setCell ?_ (by first | omega | (simp; done) | (simp; omega)) _ | refine Below.alloc ?_ (by first | omega | (simp; done) | (simp; omega)) _)) (hB.mono (by first | omega | (simp; done) | (simp; omega)))
  have hc1 := fun o => hB.cell (p := ⟨w.heap.size, o, none⟩) (by simp; omega)
  have hz := hB.size
  simp at hz
  obtain ⟨A1, c1, rfl, -, hC1⟩ := Kd.R_reads hR
  clear hR hB
  go_wp2_with fail
  refine (rle_Bytes.calls 5000 _ _ [⟨1, 5, ⟨#[]⟩⟩, ⟨1, 5, ⟨#[]⟩⟩] 1 [2, 10] 0 _ (shown_rowB _ _ (by simp)) (by decide) shown_bytes).mono ?_
  rintro e w3 ⟨v2, rfl, hR2, hB2⟩
  have hB02 : Below w.heap.size w w3 := hB0.trans (Below.trans (by repeat (first | exact Below.refl _ _ | refine Below.setCell ?_ (by first | omega | (simp; done) | (simp; omega)) _ | refine Below.alloc ?_ (by first | omega | (simp; done) | (simp; omega)) _)) (hB2.mono (by first | omega | (simp; done) | (simp; omega))))
  obtain ⟨A2, c2, rfl, -, hC2⟩ := Kd.R_reads hR2
  have hb23 : Below w2.heap.size w2 w3 := (Below.alloc (Below.refl _ _) (Nat.le_refl _) _).trans (hB2.mono (by simp))
  have hC13 := Kd.C_below hC1 hb23
  have hc2 := fun o => hb23.cell (p := ⟨w.heap.size, o, none⟩) (by show w.heap.size < w2.heap.size; omega)
  have hf2 := fun o => hb23.frozen (p := ⟨w.heap.size, o, none⟩) (by show w.heap.size < w2.heap.size; omega)
  obtain ⟨ad, e1, hx0, hx1, hx2, hx3⟩ := at_T49 hC13 0 (by decide) (by decide)
  obtain ⟨ad2, e2, hy0, -⟩ := at_T49 hC13 1 (by decide) (by decide)
  obtain rfl : ad = ad2 := by rw [e1] at e2; injection e2
  subst e1
  simp only [rd_T49, Int.reduceToNat, List.getD_cons_zero, List.getD_cons_succ, Nat.zero_mul, Nat.one_mul] at hx0 hx1 hx2 hx3 hy0
  have ks := Kd.C_string (P := Try.prog) (src := 25) (dst := 9) (c := c2) Try.underlying25 Try.underlying6 Try.underlying9 hC2
  have hC2d : Kd.C (Kd.int .u8) w3.drew A2 [2, 10].length [2, 10] := hC2
  have ksd := Kd.C_string (P := Try.prog) (src := 25) (dst := 9) (c := c2) Try.underlying25 Try.underlying6 Try.underlying9 hC2d
  have ksn := fun n => Kd.C_string (P := Try.prog) (src := 25) (dst := 9) (c := c2) Try.underlying25 Try.underlying6 Try.underlying9 (Kd.C_drewN hC2 n)
  rw [show strOfNums [2, 10] = ⟨#[2, 10]⟩ by decide] at ks ksd ksn
  simp only [List.length_cons, List.length_nil, Nat.zero_add, Nat.reduceAdd] at ks ksd ksn
  have ha0 : ad.add 0 = ad := by simp [Addr.add]
  have hx0' := hx0
  have hx1' := hx1
  have hx2' := hx2
  have hx3' := hx3
  rw [ha0] at hx0' hx1' hx2' hx3'
  have hy0' := hy0
  rw [show ad.add 4 = ⟨ad.block, ad.off + 4, none⟩ by simp [Addr.add]] at hy0'
  clear ha0
  have hg0 : w3.cell? ⟨w.heap.size, 0, none⟩ = some (.int .i64 1) := (hc2 0).trans ((hc1 0).trans (by simp))
  have hg1 : w3.cell? ⟨w.heap.size, 1, none⟩ = some (.int .i64 5) := (hc2 1).trans ((hc1 1).trans (by simp))
  have hg2 : w3.cell? ⟨w.heap.size, 2, none⟩ = some (.string ⟨#[]⟩) := (hc2 2).trans ((hc1 2).trans (by simp))
  clear hR2 hC13 hC2 hC2d hC1 hB2 hb23 hc1 hc2
  go_wp2
  go_quiet (fail)
  go_wp2
  go_ret
  exact ⟨rfl, pw_below_drewN hB02 _⟩
end Go.Proofs.Ytjchjdbfmiibhaa.Pure
