/-
  By hand: the examples at the head of chapter 3's statements.
-/
import Derived.Test.YtknkoeahcemmmaaHCrcO
import Derived.Lib.SlBytesConst
namespace Go.Proofs.Ytknkoeahcemmmaa.Hand
open Go.RowKit Go.Proofs.YtknkoeahcemmmaaW.PrintWords Go.Proofs.YtknkoeahcemmmaaW.PrintLast Go.Proofs.YtknkoeahcemmmaaW.PrintMore

theorem row_marked (w : World) (e : TypeId) (m : Nat × Nat) (xs : List Int) (hl : xs.length ≤ 9223372036854775807) :
    (Kd.int .u8).C (w.alloc (.cells ((xs.map (Value.int .u8)).toArray) e m)) (some ⟨w.heap.size, 0, none⟩) xs.length xs := by
  refine Kd.C_of_reads (d := (0 : Int)) ⟨rfl, hl, fun _ => ⟨_, rfl, fun i hi => ?_⟩⟩
  rw [show (Addr.mk w.heap.size 0 none).add i = ⟨w.heap.size, i, none⟩ by simp [Addr.add, eq_comm]]
  rw [World.cell?_alloc_mark]
  simp [hi, List.getD_eq_getElem?_getD]
theorem sum_example : crcSumBy crcRow [49, 50, 51, 52, 53, 54, 55, 56, 57] = 3421780262 := by decide +kernel
theorem block_example : ∃ r, crcBlock [7] = some r ∧ r.length = 6 := by
  refine ⟨_, if_pos (by decide), by decide +kernel⟩
set_option maxHeartbeats 2000000 in
set_option maxRecDepth 100000 in
theorem crcShown_calls (w : World) : Calls Try.prog 10 #[] w fun e w' => e = .returned (.bool true) ∧ Below w.heap.size w w' := by
  have kc := fun (w : World) (C : Array Value) (n c : Nat) => Lib.run_convert_bytes_const (P := Try.prog) w 22 5 C n c Try.underlying22 Try.underlying5
  go_enter Try.func10, Try.ntmps10
  go_wp2_with fail
  refine (crcTable_calls _).mono ?_
  rintro e w1 ⟨rfl, hb1⟩
  have HB1 := Aside0.mk hb1
  clear hb1
  go_wp2_with fail
  have hs := crcSum_calls crcRow crcRow_lt (some ⟨w1.heap.size, 0, none⟩) 9 [49, 50, 51, 52, 53, 54, 55, 56, 57] (w1.alloc (.cells #[.int .u8 49, .int .u8 50, .int .u8 51, .int .u8 52, .int .u8 53, .int .u8 54, .int .u8 55, .int .u8 56, .int .u8 57] 5 (9, 10))) (row_marked w1 _ _ [49, 50, 51, 52, 53, 54, 55, 56, 57] (by decide)) (by decide)
  rw [sum_example] at hs
  refine hs.mono ?_
  clear hs
  rintro e w2 ⟨rfl, hb2⟩
  have HB2 := Aside0.mk (below_step (below_step HB1.out (below_alloc (Below.refl _ _) _)) hb2)
  clear hb2
  go_wp2_with fail
  obtain ⟨r, hr1, hr2⟩ := block_example
  have hB := crcBlock_calls (some ⟨w2.heap.size, 0, none⟩) 1 [7] r (w2.alloc (.cells #[.int .u8 7] 5)) (row_marked w2 _ (0, 0) [7] (by decide)) (by decide) hr1
  refine hB.mono ?_
  clear hB
  rintro e w3 ⟨v3, rfl, hR3, hb3⟩
  obtain ⟨A3, c3, rfl, -, -⟩ := Kd.R_reads hR3
  rw [hr2]
  have HB3 := Aside0.mk (below_step (below_step HB2.out (below_alloc (Below.refl _ _) _)) hb3)
  clear hb3 hR3 hr1 hr2
  go_wp2
  go_ret
  exact ⟨rfl, HB3.out⟩
end Go.Proofs.Ytknkoeahcemmmaa.Hand
