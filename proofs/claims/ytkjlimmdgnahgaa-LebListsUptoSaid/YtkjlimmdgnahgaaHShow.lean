/-
  By hand: the examples at the head of chapter 2's statements: []byte of a constant is a conversion that marks the row.
-/
import Derived.Test.YtkjlimmdgnahgaaHPut
import Derived.Lib.SlBytesConst
namespace Go.Proofs.Ytkjlimmdgnahgaa.Hand
open Go.RowKit Go.Proofs.YtkjlimmdgnahgaaW.PrintWords Go.Proofs.YtkjlimmdgnahgaaW.PrintLast Go.Proofs.YtkjlimmdgnahgaaW.PrintMore

theorem row_marked (w : World) (e : TypeId) (m : Nat × Nat) (xs : List Int) (hl : xs.length ≤ 9223372036854775807) :
    (Kd.int .u8).C (w.alloc (.cells ((xs.map (Value.int .u8)).toArray) e m)) (some ⟨w.heap.size, 0, none⟩) xs.length xs := by
  refine Kd.C_of_reads (d := (0 : Int)) ⟨rfl, hl, fun _ => ⟨_, rfl, fun i hi => ?_⟩⟩
  rw [show (Addr.mk w.heap.size 0 none).add i = ⟨w.heap.size, i, none⟩ by simp [Addr.add, eq_comm]]
  rw [World.cell?_alloc_mark]
  simp [hi, List.getD_eq_getElem?_getD]

set_option maxHeartbeats 8000000 in
set_option maxRecDepth 100000 in
theorem lebShown_calls (w : World) : Calls Try.prog 10 #[] w fun e w' => e = .returned (.bool true) ∧ Below w.heap.size w w' := by
  have kc := fun (w : World) (C : Array Value) (n c : Nat) => Lib.run_convert_bytes_const (P := Try.prog) w 24 5 C n c Try.underlying24 Try.underlying5
  have ht := lebToText_calls (some ⟨w.heap.size, 0, none⟩) 4 [2, 97, 98, 99] 9 ⟨#[97, 98]⟩ [99] 0 (w.alloc (.cells #[.int .u8 2, .int .u8 97, .int .u8 98, .int .u8 99] 5 (4, 5))) (row_marked w _ _ [2, 97, 98, 99] (by decide)) (by decide) (by decide)
  go_enter Try.func10, Try.ntmps10
  go_wp2_with (go_at_call 24; refine ht.mono ?_; rintro e w' ⟨v1, rfl, hR, hB⟩)
  have hB0 := ((Below.refl w.heap.size w).alloc (Nat.le_refl _) (.cells #[.int .u8 2, .int .u8 97, .int .u8 98, .int .u8 99] 5 (4, 5))).trans (hB.mono (by simp))
  obtain ⟨A1, c1, rfl, -, hC1⟩ := Kd.R_reads hR
  clear hR hB ht
  go_wp2_with fail
  refine (lebPut_calls 300 [172, 2] _ (by decide)).mono ?_
  rintro e w2 ⟨v2, rfl, hR2, hB2⟩
  obtain ⟨A2, c2, rfl, -, hC2⟩ := Kd.R_reads hR2
  have hC12 := Kd.C_below hC1 hB2
  have hB02 := hB0.trans (hB2.mono hB0.size)
  clear hR2 hC1 hB2 hB0
  have ks2 := Kd.C_string (P := Try.prog) (src := 24) (dst := 9) (c := c2) Try.underlying24 Try.underlying5 Try.underlying9 hC2
  rw [show strOfNums [172, 2] = ⟨#[172, 2]⟩ by decide] at ks2
  simp only [List.length_cons, List.length_nil, Nat.zero_add, Nat.reduceAdd] at ks2
  go_wp2_with (go_at_call 16; refine (lebZig_calls (-1) 1 _ (by decide)).mono ?_; rintro e w' ⟨rfl, ⟨nd, rfl⟩⟩; have ks1 := Kd.C_string (P := Try.prog) (src := 24) (dst := 9) (c := c1) Try.underlying24 Try.underlying5 Try.underlying9 (Kd.C_drewN hC12 nd); rw [show strOfNums [99] = ⟨#[99]⟩ by decide] at ks1; simp only [List.length_cons, List.length_nil, Nat.zero_add] at ks1)
  go_ret
  exact ⟨rfl, pw_below_drewN hB02 _⟩
end Go.Proofs.Ytkjlimmdgnahgaa.Hand
